import Derived.Test.YtfkkefhijhjaaaaDoorGrP
namespace Go.Proofs.YtfkkefhijhjaaaaDoor.Gr
open Go.RowKit Go.Proofs.YtfkkefhijhjaaaaDoorW.PrintWords Go.Proofs.YtfkkefhijhjaaaaDoorW.PrintLast Go.Proofs.YtfkkefhijhjaaaaDoorW.PrintMore
set_option linter.unusedVariables false
set_option linter.unusedSimpArgs false
/-! ### words for the laws' walks -/
def wi (x lo hi : Int) : Int := if Int.tmod x (hi - lo + 1) < 0 then lo + (Int.tmod x (hi - lo + 1) + hi - lo + 1) else lo + Int.tmod x (hi - lo + 1)
theorem wi_rng (x : Int) {lo hi : Int} (h : lo ≤ hi) : lo ≤ wi x lo hi ∧ wi x lo hi ≤ hi := by
  have hm : 0 < hi - lo + 1 := by omega
  have h1 := Int.lt_tmod_of_pos x hm
  have h2 := Int.tmod_lt_of_pos x hm
  unfold wi
  generalize Int.tmod x (hi - lo + 1) = t at h1 h2 ⊢
  split <;> omega
set_option maxHeartbeats 8000000 in
set_option maxRecDepth 100000 in
theorem within_val (x lo hi : Int) (w : World) (h1 : lo ≤ hi) (h2 : -1000000000 ≤ lo) (h3 : hi ≤ 1000000000) :
    Calls Tryd.prog 20 #[.int .i64 x, .int .i64 lo, .int .i64 hi] w fun e w' => e = .returned (.int .i64 (wi x lo hi)) ∧ w = w' := by
  obtain ⟨v, hv⟩ : ∃ v, wi x lo hi = v := ⟨_, rfl⟩
  have hv2 := hv
  unfold wi at hv2
  rw [hv]
  clear hv
  obtain ⟨m, hm⟩ : ∃ m, hi - lo + 1 = m := ⟨_, rfl⟩
  rw [hm] at hv2
  have hm0 : 0 < m := by omega
  have w1 : wrap64 (hi - lo) = hi - lo := by unfold wrap64; omega
  have w2 : wrap64 (hi - lo + 1) = m := by rw [hm]; unfold wrap64; omega
  have w3 : wrap64 m = m := by unfold wrap64; omega
  obtain ⟨t, ht⟩ : ∃ t, Int.tmod x m = t := ⟨_, rfl⟩
  rw [ht] at hv2
  have t1 : -m < t ∧ t < m := by rw [← ht]; exact ⟨Int.lt_tmod_of_pos x hm0, Int.tmod_lt_of_pos x hm0⟩
  have c0 : (m == 0) = false := by simp; omega
  have c4 : ¬ (m = 0) := by omega
  by_cases c : t < 0
  · have d : decide (t < 0) = true := decide_eq_true c
    rw [if_pos c] at hv2
    have e1 : wrap64 (t + hi) = t + hi := by unfold wrap64; omega
    have e2 : wrap64 (t + hi - lo) = t + hi - lo := by unfold wrap64; omega
    have e3 : wrap64 (t + hi - lo + 1) = t + hi - lo + 1 := by unfold wrap64; omega
    have e4 : wrap64 (lo + (t + hi - lo + 1)) = lo + (t + hi - lo + 1) := by unfold wrap64; omega
    have HR := Aside0.mk hv2
    clear h1 h2 h3 hm0 t1 c hv2
    go_enter Tryd.func20, Tryd.ntmps20
    go_wp2_with fail
    go_ret
    refine ⟨?_, rfl⟩
    show Ending.returned (Value.int .i64 (wrap64 (lo + (t + hi - lo + 1)))) = _
    rw [e4, HR.out]
  · have d : decide (t < 0) = false := decide_eq_false c
    rw [if_neg c] at hv2
    have e4 : wrap64 (lo + t) = lo + t := by unfold wrap64; omega
    have HR := Aside0.mk hv2
    clear h1 h2 h3 hm0 t1 c hv2
    go_enter Tryd.func20, Tryd.ntmps20
    go_wp2_with fail
    go_ret
    refine ⟨?_, rfl⟩
    show Ending.returned (Value.int .i64 (wrap64 (lo + t))) = _
    rw [e4, HR.out]
section
variable {N : Int} {ls : List (Int × Int)} {x y z d e k : Int}
theorem far_sym (h : Right N ls) (hx : 0 ≤ x ∧ x < N) (hy : 0 ≤ y ∧ y < N) (h1 : FarIs N ls x y d) (h2 : FarIs N ls y x e) : e = d := by
  obtain ⟨d1, hd1, rfl⟩ := h.far hx hy h1
  obtain ⟨d2, hd2, rfl⟩ := h.far hy hx h2
  rw [hd1.uniq (hd2.symm fun _ _ h => Adj.symm h)]
theorem far_nat (h : Right N ls) (hx : 0 ≤ x ∧ x < N) (hy : 0 ≤ y ∧ y < N) (h1 : FarIs N ls x y d) : 0 ≤ d ∧ d < N := by
  obtain ⟨d1, hd1, rfl⟩ := h.far hx hy h1
  obtain ⟨n, rfl⟩ : ∃ n : Nat, N = n := ⟨N.toNat, by omega⟩
  have := hd1.lt (N := n) (fun u v hA => ⟨hA.rng.2.2.1, hA.rng.2.2.2.1⟩) hx
  omega
theorem far_zero (h : Right N ls) (hx : 0 ≤ x ∧ x < N) (hy : 0 ≤ y ∧ y < N) (h1 : FarIs N ls x y d) : d = 0 ↔ x = y := by
  obtain ⟨d1, hd1, rfl⟩ := h.far hx hy h1
  constructor
  · intro e
    have : d1 = 0 := by omega
    subst this
    exact hd1.zero.symm
  · rintro rfl
    rw [hd1.uniq Dist.self]; rfl
theorem far_one (h : Right N ls) (hx : 0 ≤ x ∧ x < N) (hy : 0 ≤ y ∧ y < N) (h1 : FarIs N ls x y d) : d = 1 ↔ Adj N ls x y := by
  obtain ⟨d1, hd1, rfl⟩ := h.far hx hy h1
  constructor
  · intro e
    have : d1 = 1 := by omega
    subst this
    exact (Dist.one.mp hd1).1
  · intro hA
    rw [hd1.uniq (Dist.one.mpr ⟨hA, fun e => hA.rng.2.2.2.2 e.symm⟩)]; rfl
theorem far_tri (h : Right N ls) (hx : 0 ≤ x ∧ x < N) (hy : 0 ≤ y ∧ y < N) (hz : 0 ≤ z ∧ z < N) (h1 : FarIs N ls x y d) (h2 : FarIs N ls x z e) (h3 : FarIs N ls z y k) : d ≤ e + k := by
  obtain ⟨d1, hd1, rfl⟩ := h.far hx hy h1
  obtain ⟨d2, hd2, rfl⟩ := h.far hx hz h2
  obtain ⟨d3, hd3, rfl⟩ := h.far hz hy h3
  have := hd1.tri hd2 hd3
  omega
theorem far_out (h1 : FarIs N ls x N d) : d = -1 := h1.out (Or.inr (by omega))
theorem far_neg (h1 : FarIs N ls (-1) x d) : d = -1 := h1.out (Or.inl (by omega))
theorem beq_of {p q : Int} {b : Bool} (h : b = true ↔ p = q) : (p == q) = b := by
  cases b
  · have : ¬ p = q := fun e => by have := h.mpr e; cases this
    simpa using this
  · simpa using h.mp rfl
end
theorem near_mem (N : Int) (ls : List (Int × Int)) (a b : Int) : (near N ls a).contains b = true ↔ Adj N ls a b := by
  rw [List.contains_iff_mem]
  exact (near_is N ls a).2 b
theorem linked_at (N a b : Int) (A : Option Addr) (n c : Nat) (ls : List (Int × Int)) (w : World) (r : Bool) (hr : Kd.C k24 w A n ls) (hc : n ≤ c) (hl : n ≤ 1000) (hN : 0 ≤ N ∧ N ≤ 100) (h : r = true ↔ Adj N ls a b) :
    Calls Tryd.prog 30 #[.agg #[.int .i64 N, .slice A n c], .int .i64 a, .int .i64 b] w fun e w' => e = .returned (.bool r) ∧ Below w.heap.size w w' := by
  have hn := Kd.C_len hr
  subst hn
  obtain ⟨m, rfl⟩ : ∃ m : Nat, N = m := ⟨N.toNat, by omega⟩
  have e : (near (m : Int) ls a).contains b = r := by
    rw [Bool.eq_iff_iff, near_mem, h]
  rw [← e]
  exact linked_calls m a b A c ls w hr hc (by omega) (by have := (near_is m ls a).len; omega)
end Go.Proofs.YtfkkefhijhjaaaaDoor.Gr
