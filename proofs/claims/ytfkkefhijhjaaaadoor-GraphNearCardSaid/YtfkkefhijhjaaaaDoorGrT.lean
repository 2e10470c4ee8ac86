import Derived.Test.YtfkkefhijhjaaaaDoorGrS
namespace Go.Proofs.YtfkkefhijhjaaaaDoor.Gr
open Go.RowKit Go.Proofs.YtfkkefhijhjaaaaDoorW.PrintWords Go.Proofs.YtfkkefhijhjaaaaDoorW.PrintLast Go.Proofs.YtfkkefhijhjaaaaDoorW.PrintMore
set_option linter.unusedVariables false
set_option linter.unusedSimpArgs false
set_option maxHeartbeats 8000000 in
set_option maxRecDepth 100000 in
/-- Same of two equal rows of links. -/
theorem same32_true (A0 A1 : Option Addr) (n c0 c1 : Nat) (xs : List (Int × Int)) (w : World) (h0 : Kd.C k24 w A0 n xs) (h1 : Kd.C k24 w A1 n xs) (hl : n ≤ 1000) (hok : ∀ x ∈ xs, S70.ok x) :
    Calls Tryd.prog 32 #[.slice A0 n c0, .slice A1 n c1] w fun e w' => e = .returned (.bool true) ∧ Below w.heap.size w w' := by
  have H0 := Aside0.mk h0
  have H1 := Aside0.mk h1
  have HL := Aside0.mk (Kd.C_len h0)
  have OK := Aside0.mk hok
  clear h0 h1 hok
  go_enter Tryd.func32, Tryd.ntmps32
  go_wp2_with fail
  go_loopg [5] n (fun q s5 wr => ∃ i : Nat, s5 = .int .i64 (i : Int) ∧ Aside0 (q + i = n) ∧ Aside0 (Below w.heap.size w wr))
  case atStart => exact ⟨0, rfl, ⟨by omega⟩, ⟨Below.refl _ _⟩⟩
  case round =>
    obtain ⟨i, rfl, HQ, HB⟩ := hrel
    by_cases hi : i < n
    · obtain ⟨x, hx⟩ : ∃ x, xs[i]? = some x := ⟨_, List.getElem?_eq_getElem (by have := HL.out; omega)⟩
      obtain ⟨ad, ha, hx0, hx1⟩ := at24n (Kd.C_below H0.out HB.out) hx
      obtain ⟨ad', ha', hy0, hy1⟩ := at24n (Kd.C_below H1.out HB.out) hx
      cases ha
      cases ha'
      have heq := eq24 (OK.out x (List.mem_of_getElem? hx)) (OK.out x (List.mem_of_getElem? hx))
      rw [decide_eq_true rfl] at heq
      have hi1 : (i : Int) < (n : Int) := by omega
      have d0 : decide ((i : Int) < (n : Int)) = true := decide_eq_true hi1
      have hi6 : (i : Int) + 1 ≤ 1000000 := by omega
      clear hx
      go_upto_region 6 with (fail)
      go_quiet (fail)
      go_wp2_with fail
      go_roundg (gk - 1)
      case measure => have := HQ.out; omega
      case rel => exact ⟨i + 1, by go_num, ⟨by have := HQ.out; omega⟩, ⟨by repeat (first | exact HB.out | apply pw_below_drewN | apply below_drew)⟩⟩
    · obtain rfl : i = n := by have := HQ.out; omega
      go_wp2_with fail
      go_ret
      exact ⟨rfl, by repeat (first | exact HB.out | apply pw_below_drewN | apply below_drew)⟩
end Go.Proofs.YtfkkefhijhjaaaaDoor.Gr
