import Derived.Test.YtfkkefhijhjaaaaDoorProg
import Derived.Test.YtfkkefhijhjaaaaDoorGp
import Derived.Below
import Derived.Deep.Draws
import Derived.OwnWalk
import Derived.Tactics
import Derived.WalkKit
import Derived.KernelRfl
import Derived.RowKit3
import Derived.Deep.LoopGhost
import Derived.Deep.QuietTactic
import Derived.BigQuiet
import Derived.WideLaws
import Derived.Deep.DeepCutAuto
import Derived.Deep.CutBlock
import Derived.Deep.RegionHeld3
import Derived.Laws.Rows
import Derived.OrdersHeld
import Derived.RowKit
import Derived.Test.YtfkkefhijhjaaaaDoorWWords
namespace Go.Proofs.YtfkkefhijhjaaaaDoor.Gr
open Go.RowKit Go.Proofs.YtfkkefhijhjaaaaDoorW.PrintWords
set_option linter.unusedVariables false
set_option linter.unusedSimpArgs false


def k24 : Kd (Int × Int) := Kd.pair (Kd.int .i64) (Kd.int .i64)
theorem k24_open {w : World} {x : Int × Int} {cs : List Value} (h : k24.K w x cs) : cs = [.int .i64 x.1, .int .i64 x.2] := by
  obtain ⟨c0, c1, rfl, rfl, rfl⟩ := h
  rfl
def rd24 (xs : List (Int × Int)) (i : Int) : Int × Int := xs.getD i.toNat (0, 0)
theorem at_24 {w : World} {A : Option Addr} {n : Nat} {xs : List (Int × Int)} (h : Kd.C k24 w A n xs) (i : Int) (h0 : 0 ≤ i) (h1 : i < n) :
    ∃ ad, A = some ad ∧ w.cell? (ad.add (i.toNat * 2)) = some (.int .i64 (rd24 xs i).1) ∧ w.cell? ⟨(ad.add (i.toNat * 2)).block, (ad.add (i.toNat * 2)).off + 1, none⟩ = some (.int .i64 (rd24 xs i).2) := by
  obtain ⟨ad, c, e, _, hK, hc0⟩ := Kd.C_get h (0, 0) i h0 h1
  have hc : ∀ j u, c[j]? = some u → w.cell? (ad.add (i.toNat * 2 + j)) = some u := hc0
  obtain rfl := k24_open hK
  exact ⟨ad, e, hc 0 _ rfl, by rw [← add_field _ _ 1 (by omega)]; exact hc 1 _ rfl⟩

set_option maxHeartbeats 8000000 in
set_option maxRecDepth 100000 in
theorem broker_ex (N b : Int) (v : Value) (hv : v.oneCell' = true) (w : World) :
    Calls Tryd.prog 58 #[.agg #[.int .i64 N, v], .int .i64 b] w fun e w' => e = .returned (.bool (isB N b)) ∧ w' = w.alloc (Obj.cells #[.int .i64 N, v] 27) := by
  by_cases h1 : b ≥ 0
  · by_cases h2 : b < N
    · go_enter Tryd.func58, Tryd.ntmps58
      go_wp2
      go_ret
      exact ⟨by simp [isB, h1, h2], rfl⟩
    · go_enter Tryd.func58, Tryd.ntmps58
      go_wp2
      go_ret
      exact ⟨by simp [isB, h2], rfl⟩
  · go_enter Tryd.func58, Tryd.ntmps58
    go_wp2
    go_ret
    exact ⟨by simp [isB]; omega, rfl⟩
theorem broker_calls (N b : Int) (v : Value) (hv : v.oneCell' = true) (w : World) :
    Calls Tryd.prog 58 #[.agg #[.int .i64 N, v], .int .i64 b] w fun e w' => e = .returned (.bool (isB N b)) ∧ Below w.heap.size w w' :=
  (broker_ex N b v hv w).mono fun _ _ h => ⟨h.1, by rw [h.2]; exact (Below.refl _ _).alloc (Nat.le_refl _) _⟩

theorem agg2 {x y x' y' : Int} (h : x = x') (h' : y = y') : Ending.returned (Value.agg #[.int .i64 x, .int .i64 y]) = Ending.returned (.agg #[.int .i64 x', .int .i64 y']) := by rw [h, h']
theorem two_alloc (w : World) (o o' : Obj) : ((w.alloc o).alloc o').heap[w.heap.size + 1]? = some o' := by
  show ((w.heap.push o).push o')[w.heap.size + 1]? = some o'
  rw [show w.heap.size + 1 = (w.heap.push o).size by simp]
  exact Array.getElem?_push_size

set_option maxHeartbeats 8000000 in
set_option maxRecDepth 100000 in
theorem joined_ex (a b : Int) (w : World) :
    Calls Tryd.prog 53 #[.agg #[.int .i64 a, .int .i64 b]] w fun e w' => e = .returned (.agg #[.int .i64 (joined (a, b)).1, .int .i64 (joined (a, b)).2]) ∧ Below w.heap.size w w' := by
  go_enter Tryd.func53, Tryd.ntmps53
  go_wp2_with fail
  all_goals
    refine bodyPost_ret (results_cell_row (ty := 24) rfl _ _ (w.heap.size + 1) 24 _ (0, 0) _ rfl (two_alloc w _ _) Tryd.underlying24 rfl (by kernel_rfl)) rfl ?_
    refine ⟨agg2 (show _ = min a b by omega) (show _ = max a b by omega), ?_⟩
    repeat (first | exact Below.refl _ _ | apply below_alloc)

set_option maxHeartbeats 8000000 in
set_option maxRecDepth 100000 in
theorem may_calls (N a b : Int) (v : Value) (hv : v.oneCell' = true) (w : World) :
    Calls Tryd.prog 42 #[.agg #[.int .i64 N, v], .agg #[.int .i64 a, .int .i64 b]] w fun e w' => e = .returned (.bool (okL N (a, b))) ∧ Below w.heap.size w w' := by
  cases ha : isB N a
  · go_enter Tryd.func42, Tryd.ntmps42
    go_wp2_with (go_at_call 58; refine (broker_ex _ _ _ hv _).mono ?_; rintro e w' ⟨rfl, rfl⟩; rw [ha])
    go_ret
    refine ⟨?_, ?_⟩
    · have : okL N (a, b) = (isB N a && isB N b && decide (a ≠ b)) := rfl
      rw [this, ha]; rfl
    · repeat (first | exact Below.refl _ _ | apply below_alloc)
  · cases hb : isB N b
    · go_enter Tryd.func42, Tryd.ntmps42
      go_wp2_with (go_at_call 58; refine (broker_ex _ _ _ hv _).mono ?_; rintro e w' ⟨rfl, rfl⟩; first | rw [ha] | rw [hb])
      go_ret
      refine ⟨?_, ?_⟩
      · have : okL N (a, b) = (isB N a && isB N b && decide (a ≠ b)) := rfl
        rw [this, ha, hb]; rfl
      · repeat (first | exact Below.refl _ _ | apply below_alloc)
    · by_cases hc : a = b
      all_goals
        go_enter Tryd.func42, Tryd.ntmps42
        go_wp2_with (go_at_call 58; refine (broker_ex _ _ _ hv _).mono ?_; rintro e w' ⟨rfl, rfl⟩; first | rw [ha] | rw [hb])
        go_ret
        refine ⟨?_, ?_⟩
        · have : okL N (a, b) = (isB N a && isB N b && decide (a ≠ b)) := rfl
          rw [this, ha, hb]; simp [hc]
        · repeat (first | exact Below.refl _ _ | apply below_alloc)
end Go.Proofs.YtfkkefhijhjaaaaDoor.Gr
