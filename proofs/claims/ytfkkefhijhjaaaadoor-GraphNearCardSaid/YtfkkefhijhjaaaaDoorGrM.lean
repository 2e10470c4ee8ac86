import Derived.Test.YtfkkefhijhjaaaaDoorGrL
import Derived.Test.YtfkkefhijhjaaaaDoorRg
namespace Go.Proofs.YtfkkefhijhjaaaaDoor.Gr
open Go.RowKit Go.Proofs.YtfkkefhijhjaaaaDoorW.PrintWords Go.Proofs.YtfkkefhijhjaaaaDoorW.PrintLast Go.Proofs.YtfkkefhijhjaaaaDoorW.PrintMore
set_option linter.unusedVariables false
set_option linter.unusedSimpArgs false
set_option maxHeartbeats 8000000 in
set_option maxRecDepth 100000 in
theorem within_ex (x lo hi : Int) (w : World) (h1 : lo ≤ hi) (h2 : -1000000000 ≤ lo) (h3 : hi ≤ 1000000000) :
    Calls Tryd.prog 20 #[.int .i64 x, .int .i64 lo, .int .i64 hi] w fun e w' => ∃ r : Int, e = .returned (.int .i64 r) ∧ (lo ≤ r ∧ r ≤ hi) ∧ w = w' := by
  obtain ⟨m, hm⟩ : ∃ m, hi - lo + 1 = m := ⟨_, rfl⟩
  have hm0 : 0 < m := by omega
  have w1 : wrap64 (hi - lo) = hi - lo := by unfold wrap64; omega
  have w2 : wrap64 (hi - lo + 1) = m := by rw [hm]; unfold wrap64; omega
  have w3 : wrap64 m = m := by unfold wrap64; omega
  obtain ⟨t, ht⟩ : ∃ t, Int.tmod x m = t := ⟨_, rfl⟩
  have t1 : -m < t ∧ t < m := by rw [← ht]; exact ⟨Int.lt_tmod_of_pos x hm0, Int.tmod_lt_of_pos x hm0⟩
  have c0 : (m == 0) = false := by simp; omega
  have HT := Aside0.mk t1
  have c4 : ¬ (m = 0) := by omega
  by_cases c : t < 0
  · have d : decide (t < 0) = true := decide_eq_true c
    have e1 : wrap64 (t + hi) = t + hi := by unfold wrap64; omega
    have e2 : wrap64 (t + hi - lo) = t + hi - lo := by unfold wrap64; omega
    have e3 : wrap64 (t + hi - lo + 1) = t + hi - lo + 1 := by unfold wrap64; omega
    have e4 : wrap64 (lo + (t + hi - lo + 1)) = lo + (t + hi - lo + 1) := by unfold wrap64; omega
    have HR : Aside0 (lo ≤ lo + (t + hi - lo + 1) ∧ lo + (t + hi - lo + 1) ≤ hi) := ⟨by omega⟩
    clear h1 h2 h3 hm0 t1 c
    go_enter Tryd.func20, Tryd.ntmps20
    go_wp2_with fail
    go_ret
    exact ⟨_, rfl, by rw [e4]; exact HR.out, rfl⟩
  · have d : decide (t < 0) = false := decide_eq_false c
    have e4 : wrap64 (lo + t) = lo + t := by unfold wrap64; omega
    have HR : Aside0 (lo ≤ lo + t ∧ lo + t ≤ hi) := ⟨by omega⟩
    clear h1 h2 h3 hm0 t1 c
    go_enter Tryd.func20, Tryd.ntmps20
    go_wp2_with fail
    go_ret
    exact ⟨_, rfl, by rw [e4]; exact HR.out, rfl⟩
set_option maxHeartbeats 8000000 in
set_option maxRecDepth 100000 in
theorem pick_ex (A : Option Addr) (c : Nat) (l : List Int) (i : Int) (w : World) (hC : Kd.C (Kd.int .i64) w A l.length l) (h0 : 0 ≤ i) :
    Calls Tryd.prog 41 #[.slice A l.length c, .int .i64 i] w fun e w' => ∃ r : Int, e = .returned (.int .i64 r) ∧ w = w' := by
  by_cases hl : l.length = 0
  · have c1 : ((l.length : Int) == 0) = true := by simp [hl]
    have c2 : (l.length == 0) = true := by simp [hl]
    have c3 : l = [] := List.length_eq_zero_iff.mp hl
    subst c3
    clear hC hl
    go_enter Tryd.func41, Tryd.ntmps41
    go_wp2_with fail
    go_ret
    exact ⟨_, rfl, rfl⟩
  · obtain ⟨n, hn⟩ : ∃ n, l.length = n := ⟨_, rfl⟩
    obtain ⟨t, ht⟩ : ∃ t, Int.tmod i (n : Int) = t := ⟨_, rfl⟩
    have hn0 : 0 < (n : Int) := by omega
    have t0 : 0 ≤ t := by rw [← ht]; exact Int.tmod_nonneg _ h0
    have t1 : t < (n : Int) := by rw [← ht]; exact Int.tmod_lt_of_pos i hn0
    rw [hn] at hC ⊢
    obtain ⟨x, hx⟩ : ∃ x, l[t.toNat]? = some x := ⟨_, List.getElem?_eq_getElem (by omega)⟩
    obtain ⟨ad, e, hc⟩ := at_int hC hx
    cases e
    have c1 : ((n : Int) == 0) = false := by simp; omega
    have c2 : (n == 0) = false := by simp; omega
    clear hC hx hn hl h0
    go_enter Tryd.func41, Tryd.ntmps41
    go_wp2_with fail
    go_ret
    exact ⟨_, rfl, rfl⟩
end Go.Proofs.YtfkkefhijhjaaaaDoor.Gr
