import Derived.Test.YtfkkefhijhjaaaaDoorGrG
import Derived.Test.YtfkkefhijhjaaaaDoorGrH
import Derived.DeepKeys
namespace Go.Proofs.YtfkkefhijhjaaaaDoor.Gr
open Go.RowKit Go.Proofs.YtfkkefhijhjaaaaDoorW.PrintWords Go.Proofs.YtfkkefhijhjaaaaDoorW.PrintLast Go.Proofs.YtfkkefhijhjaaaaDoorW.PrintMore
open Go.Lib Go.Sort
set_option linter.unusedVariables false
set_option linter.unusedSimpArgs false
theorem key24 {x : Int × Int} (h : S70.ok x) : Tryd.prog.keyLits (Tryd.prog.types.size + 1) 24 [vI x.1, vI x.2] = some [.int .i64 x.1, .int .i64 x.2] := by
  have h1 : ∀ y : Int, (Lit.int .i64 y).wf = true → Tryd.prog.keyLits Tryd.prog.types.size 3 [vI y] = some [.int .i64 y] := by
    intro y hy
    have hp : Nat.blt 0 Tryd.prog.types.size = true := by kernel_rfl
    rw [Nat.blt_eq] at hp
    obtain ⟨m, hm⟩ : ∃ m, Tryd.prog.types.size = m + 1 := ⟨Tryd.prog.types.size - 1, by omega⟩
    rw [hm]
    unfold Program.keyLits
    rw [Tryd.underlying3]
    simp [hy]
  unfold Program.keyLits
  rw [Tryd.underlying24]
  have hc : Tryd.prog.cellsOf 24 = 2 := by kernel_rfl
  have hc3 : Tryd.prog.cellsOf 3 = 1 := by kernel_rfl
  simp only [List.length_cons, List.length_nil, hc, if_true, hc3]
  have e0 : Tryd.prog.keyLits Tryd.prog.types.size 3 ((([vI x.1, vI x.2] : List Value).drop (0 * 1)).take 1) = some [.int .i64 x.1] := h1 _ h.1
  have e1 : Tryd.prog.keyLits Tryd.prog.types.size 3 ((([vI x.1, vI x.2] : List Value).drop (1 * 1)).take 1) = some [.int .i64 x.2] := h1 _ h.2
  rw [show List.range 2 = [0, 1] from rfl]
  simp only [List.mapM_cons, List.mapM_nil, e0, e1]
  rfl
theorem formed24 (x : Int × Int) : (Value.agg #[vI x.1, vI x.2]).formed Tryd.prog 24 = true := by
  unfold Value.formed
  rw [Tryd.underlying24]
  simp [show Tryd.prog.cellsOf 24 = 2 by kernel_rfl]
open Classical in
theorem eq24 {x y : Int × Int} (hx : S70.ok x) (hy : S70.ok y) (w : World) : Sem.run Tryd.prog (Op.equalIn 10000 24 (.agg #[vI x.1, vI x.2]) (.agg #[vI y.1, vI y.2])) w = .ok (decide (x = y)) w := by
  obtain ⟨r, hr, hi⟩ := run_equalIn_deep (P := Tryd.prog) 9997 3 24 (by kernel_rfl) w _ _ (.agg #[vI x.1, vI x.2]) (.agg #[vI y.1, vI y.2]) _ _ (formed24 x) (formed24 y) (key24 hx) (key24 hy)
  have e : (r = true ↔ x = y) := by
    rw [hi]
    simp only [List.cons.injEq, Lit.int.injEq, true_and, and_true]
    exact ⟨fun h => Prod.ext h.1 h.2, fun h => by rw [h]; exact ⟨rfl, rfl⟩⟩
  rw [show (9997 + 3 : Nat) = 10000 from rfl] at hr
  rw [hr]
  by_cases h : x = y
  · rw [decide_eq_true h, e.mpr h]
  · rw [decide_eq_false h]
    cases r
    · rfl
    · exact absurd (e.mp rfl) h
theorem drewN_drewN' (w : World) (a b : Nat) : (w.drewN a).drewN b = w.drewN (a + b) := by
  simp [World.drewN, Nat.add_assoc]
theorem at24n {w : World} {A : Option Addr} {n : Nat} {xs : List (Int × Int)} (h : Kd.C k24 w A n xs) {i : Nat} {x : Int × Int} (hx : xs[i]? = some x) :
    ∃ ad, A = some ad ∧ w.cell? (ad.add (i * 2)) = some (vI x.1) ∧ w.cell? ⟨(ad.add (i * 2)).block, (ad.add (i * 2)).off + 1, none⟩ = some (vI x.2) := by
  obtain ⟨hi, _⟩ := List.getElem?_eq_some_iff.mp hx
  have hn := Kd.C_len h
  obtain ⟨ad, e, h0, h1⟩ := at_24 h (i : Int) (by omega) (by omega)
  have e2 : rd24 xs i = x := by unfold rd24; rw [Int.toNat_natCast, List.getD_eq_getElem?_getD, hx]; rfl
  rw [e2] at h0 h1
  simp only [Int.toNat_natCast] at h0 h1
  exact ⟨ad, e, h0, h1⟩
set_option maxHeartbeats 8000000 in
set_option maxRecDepth 100000 in
/-- slices.Compact of a row no two neighbours of which are the same. -/
theorem compact24 (A : Option Addr) (c : Nat) (xs : List (Int × Int)) (w : World) (hC : Kd.C k24 w A xs.length xs) (hc : xs.length ≤ c) (hl : xs.length ≤ 10000000) (hok : ∀ x ∈ xs, S70.ok x) (hne : ∀ i x y, xs[i]? = some x → xs[i + 1]? = some y → y ≠ x) :
    Calls Tryd.prog 47 #[.slice A xs.length c] w fun e w' => e = .returned (.slice A xs.length c) ∧ ∃ q, w' = w.drewN q := by
  have F0 := Aside0.mk hC
  have OK := Aside0.mk hok
  have NE := Aside0.mk hne
  clear hC hok hne
  by_cases h2 : xs.length < 2
  · have d2 : decide ((xs.length : Int) < 2) = true := decide_eq_true (by omega)
    go_enter Tryd.func47, Tryd.ntmps47
    go_wp2_with fail
    go_ret
    exact ⟨rfl, 0, rfl⟩
  · have d2 : decide ((xs.length : Int) < 2) = false := decide_eq_false (by omega)
    go_enter Tryd.func47, Tryd.ntmps47
    go_wp2_with fail
    go_loopg [3] xs.length (fun q s3 wr => ∃ j : Nat, s3 = .int .i64 ((j : Int) + 1) ∧ Aside0 (q + j = xs.length) ∧ Aside0 (j < xs.length) ∧ Aside0 (∃ q, wr = w.drewN q))
    case atStart => exact ⟨0, rfl, ⟨by omega⟩, ⟨by omega⟩, ⟨0, rfl⟩⟩
    case round =>
      obtain ⟨j, rfl, HQ, HJ, HW⟩ := hrel
      by_cases hlt : j + 1 < xs.length
      · have hlt2 : (j : Int) + 1 < (xs.length : Int) := by omega
        have d3 : decide ((j : Int) + 1 < (xs.length : Int)) = true := decide_eq_true hlt2
        have h0 : (0 : Int) ≤ (j : Int) + 1 := by omega
        have h1 : (j : Int) + 1 ≤ 10000000 := by omega
        have h3 : ((j : Int) + 1).toNat = j + 1 := by omega
        obtain ⟨x, hx⟩ : ∃ x, xs[j]? = some x := ⟨_, List.getElem?_eq_getElem (by omega)⟩
        obtain ⟨y, hy⟩ : ∃ x, xs[j + 1]? = some x := ⟨_, List.getElem?_eq_getElem (by omega)⟩
        have hCr : Kd.C k24 wr A xs.length xs := by obtain ⟨q, rfl⟩ := HW.out; exact Kd.C_drewN F0.out q
        obtain ⟨ad, ha, hx0, hx1⟩ := at24n hCr hx
        obtain ⟨ad', ha', hy0, hy1⟩ := at24n hCr hy
        rw [ha] at ha'
        cases ha'
        cases ha
        have heq := eq24 (OK.out y (List.mem_of_getElem? hy)) (OK.out x (List.mem_of_getElem? hx))
        rw [decide_eq_false (NE.out j x y hx hy)] at heq
        clear hx hy hCr
        go_upto_region 6 with (fail)
        go_quiet (fail)
        go_wp2_with fail
        go_roundg (gk - 1)
        case measure => have := HQ.out; omega
        case rel =>
          refine ⟨j + 1, by go_num, ⟨by have := HQ.out; omega⟩, ⟨hlt⟩, ⟨?_⟩⟩
          obtain ⟨q, hq⟩ := HW.out
          exact ⟨q + nq, by rw [hq, drewN_drewN']⟩
      · have hj : j + 1 = xs.length := by have := HJ.out; omega
        have d3 : decide ((j : Int) + 1 < (xs.length : Int)) = false := decide_eq_false (by omega)
        have h0 : ¬ ((j : Int) + 1 < (xs.length : Int)) := by omega
        have HJ2 := Aside0.mk hj
        clear hj
        go_wp2_with fail
        go_ret
        exact ⟨rfl, HW.out⟩
end Go.Proofs.YtfkkefhijhjaaaaDoor.Gr
