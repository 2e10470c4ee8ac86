import Derived.Test.YtfkkefhijhjaaaaDoorGrE
namespace Go.Proofs.YtfkkefhijhjaaaaDoor.Gr
open Go.RowKit Go.Proofs.YtfkkefhijhjaaaaDoorW.PrintWords Go.Proofs.YtfkkefhijhjaaaaDoorW.PrintLast Go.Proofs.YtfkkefhijhjaaaaDoorW.PrintMore
set_option linter.unusedVariables false
set_option linter.unusedSimpArgs false
theorem get_arr (xs : List Int) (j : Nat) (h : j < xs.length) : xs.toArray[j]! = xs.getD j 0 := by
  rw [getElem!_pos xs.toArray j (by simpa using h), List.getD_eq_getElem?_getD, List.getElem?_eq_getElem h]
  simp
/-- slices.Contains of a row of one's own. -/
theorem contains_R {w : World} {base : Nat} {v : Value} {xs : List Int} (HO : (Kd.int .i64).R 3 w base (fun _ => True) v xs) (hl : xs.length < 1000000000) (x : Int) :
    Calls Tryd.prog 59 #[v, .int .i64 x] w fun e w' => e = .returned (.bool (xs.contains x)) ∧ w' = w := by
  have HR := own_of_R HO
  by_cases hv : v = .slice none 0 0
  · subst hv
    have h0 := nil_len HR
    have hx : xs = [] := List.length_eq_zero_iff.mp h0
    subst hx
    refine (Tryd.slices_Contains_int_empty none 0 x w).mono ?_
    rintro e w' ⟨rfl, rfl⟩
    exact ⟨rfl, rfl⟩
  · obtain ⟨g, cap, rfl, hg, hlt, hn, hm, hlen, hH⟩ := Lib.holds_of_ownsRow HR hv
    have h := Tryd.slices_Contains_int g 0 xs.length cap xs x w (Nat.le_refl _) (by omega) (fun j hj => by
      have := (hH j (by simpa using hj)).1
      rw [get_arr xs j hj] at this
      exact this)
    rw [List.take_length] at h
    exact h
set_option maxHeartbeats 8000000 in
set_option maxRecDepth 100000 in
theorem linked_calls (N a b : Int) (A : Option Addr) (c : Nat) (ls : List (Int × Int)) (w : World) (hr : Kd.C k24 w A ls.length ls) (hc : ls.length ≤ c) (hl : ls.length ≤ 1000000) (hn : (near N ls a).length < 1000000000) :
    Calls Tryd.prog 30 #[.agg #[.int .i64 N, .slice A ls.length c], .int .i64 a, .int .i64 b] w fun e w' => e = .returned (.bool ((near N ls a).contains b)) ∧ Below w.heap.size w w' := by
  have F0 := Aside0.mk hr
  clear hr
  go_enter Tryd.func30, Tryd.ntmps30
  go_wp2_with (first | (go_at_call 27; refine (near_calls N a A c ls _ (Kd.C_below F0.out (below_alloc (Below.refl _ _) _)) hc hl).mono ?_; rintro e w2 ⟨v, rfl, hO, hB⟩; have HO := Aside0.mk hO; have HB := Aside0.mk ((below_alloc (Below.refl w.heap.size w) (Obj.cells #[.int .i64 N, .slice A ls.length c] 27)).trans (hB.mono (by simp))); clear hO hB) | (go_at_call 59; refine (contains_R HO.out hn b).mono ?_; rintro e w3 ⟨rfl, rfl⟩))
  go_ret
  exact ⟨by simp [near], HB.out⟩
end Go.Proofs.YtfkkefhijhjaaaaDoor.Gr
