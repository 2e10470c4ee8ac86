import Derived.Test.YtfabnapjbgamaaaGreatDoorMx0
import Derived.Deep.LoopGhost
import Derived.Shelf.Abstract
import Derived.Lib.Bytealg
namespace Go.Proofs.YtfabnapjbgamaaaGreatDoor.MPred
open Go.RowKit Go.Lib Go.Proofs.YtfabnapjbgamaaaGreatDoorW.PrintWords Go.Proofs.YtfabnapjbgamaaaGreatDoorW.PrintLast Go.Proofs.YtfabnapjbgamaaaGreatDoorW.PrintMore
set_option linter.unusedVariables false
set_option linter.unusedSimpArgs false

def pred_Both.none_ : Option (ByteArray × Int × Int × Int × ByteArray × Bool) := some ((⟨#[]⟩ : ByteArray), 0, 0, 0, (⟨#[]⟩ : ByteArray), false)
def pred_Both.fin (a0 : ByteArray) (a1 a2 a3 : Int) (a4 : ByteArray) (b0 : ByteArray) (b1 b2 b3 : Int) (b4 : ByteArray) : Option (ByteArray × Int × Int × Int × ByteArray × Bool) :=
  (pred_Holds.f b0 b1 b2 b3 b4 true 0 a4).bind fun h => if h = true then some (a0, a1, a2, a3, a4, true) else pred_Both.none_
def pred_Both.core (a0 : ByteArray) (a1 a2 a3 : Int) (a4 : ByteArray) (b0 : ByteArray) (b1 b2 b3 : Int) (b4 : ByteArray) : Option (ByteArray × Int × Int × Int × ByteArray × Bool) :=
  if a1 = 1 then (if b1 = 1 then (if mx a2 b2 > mn a3 b3 then pred_Both.none_ else some (a0, a1, mx a2 b2, mn a3 b3, a4, true)) else pred_Both.none_)
  else if a1 = 3 then (if a4.size < b4.size then pred_Both.fin b0 b1 b2 b3 b4 a0 a1 a2 a3 a4 else pred_Both.fin a0 a1 a2 a3 a4 b0 b1 b2 b3 b4)
  else if a1 = 2 then pred_Both.fin a0 a1 a2 a3 a4 b0 b1 b2 b3 b4 else pred_Both.none_
def pred_Both.f (a0 : ByteArray) (a1 a2 a3 : Int) (a4 : ByteArray) (b0 : ByteArray) (b1 b2 b3 : Int) (b4 : ByteArray) : Option (ByteArray × Int × Int × Int × ByteArray × Bool) :=
  if a1 > b1 then pred_Both.core b0 b1 b2 b3 b4 a0 a1 a2 a3 a4 else pred_Both.core a0 a1 a2 a3 a4 b0 b1 b2 b3 b4
theorem pred_Both.up {w : World} {g : Nat} {o : Obj} (h : w.heap[g]? = some o) (o' : Obj) : (w.alloc o').heap[g]? = some o := (Below.heap_alloc w o' g (blk_lt h)).trans h
theorem pred_Both.top (w : World) (o : Obj) {g : Nat} (hg : g = w.heap.size) : (w.alloc o).heap[g]? = some o := by subst hg; exact heap_alloc_new w o

set_option maxHeartbeats 4000000 in
set_option maxRecDepth 100000 in
theorem pred_Both.n_r0 (a0 : ByteArray) (a1 a2 a3 : Int) (a4 : ByteArray) (b0 : ByteArray) (b1 b2 b3 : Int) (b4 : ByteArray) (w : World) (h1 : decide (b1 < a1) = false) (k1 : (a1 == 1) = true) (k2 : (b1 != 1) = true) :
    Calls Tryz.prog 14 #[.agg #[.string a0, .int .i64 a1, .int .i64 a2, .int .i64 a3, .string a4], .agg #[.string b0, .int .i64 b1, .int .i64 b2, .int .i64 b3, .string b4]] w fun e w' => e = .returned (.tuple #[.agg #[.string (⟨#[]⟩ : ByteArray), .int .i64 0, .int .i64 0, .int .i64 0, .string (⟨#[]⟩ : ByteArray)], .bool false]) ∧ Below w.heap.size w w' := by
  have hu23 := Tryz.underlying23
  go_enter Tryz.func14, Tryz.ntmps14
  go_wp2
  refine bodyPost_ret (v := .tuple #[.agg #[.string (⟨#[]⟩ : ByteArray), .int .i64 0, .int .i64 0, .int .i64 0, .string (⟨#[]⟩ : ByteArray)], .bool false]) (by simp [results, Tryz.results14, go_sem]) rfl ⟨rfl, ?_⟩
  repeat (with_reducible first | exact Below.refl _ _ | apply below_alloc | apply pw_below_drewN | apply below_drew1 | refine below_set ?_ (by omega))

set_option maxHeartbeats 4000000 in
set_option maxRecDepth 100000 in
theorem pred_Both.n_r1_0 (a0 : ByteArray) (a1 a2 a3 : Int) (a4 : ByteArray) (b0 : ByteArray) (b1 b2 b3 : Int) (b4 : ByteArray) (w : World) (h1 : decide (b1 < a1) = false) (k1 : (a1 == 1) = true) (k2 : (b1 != 1) = false) (m1 : ¬ a2 < b2) (m2 : ¬ b3 < a3) (k3 : decide (a3 < a2) = true) :
    Calls Tryz.prog 14 #[.agg #[.string a0, .int .i64 a1, .int .i64 a2, .int .i64 a3, .string a4], .agg #[.string b0, .int .i64 b1, .int .i64 b2, .int .i64 b3, .string b4]] w fun e w' => e = .returned (.tuple #[.agg #[.string (⟨#[]⟩ : ByteArray), .int .i64 0, .int .i64 0, .int .i64 0, .string (⟨#[]⟩ : ByteArray)], .bool false]) ∧ Below w.heap.size w w' := by
  have hu23 := Tryz.underlying23
  go_enter Tryz.func14, Tryz.ntmps14
  go_wp2
  refine bodyPost_ret (v := .tuple #[.agg #[.string (⟨#[]⟩ : ByteArray), .int .i64 0, .int .i64 0, .int .i64 0, .string (⟨#[]⟩ : ByteArray)], .bool false]) (by simp [results, Tryz.results14, go_sem]) rfl ⟨rfl, ?_⟩
  repeat (with_reducible first | exact Below.refl _ _ | apply below_alloc | apply pw_below_drewN | apply below_drew1 | refine below_set ?_ (by omega))

set_option maxHeartbeats 4000000 in
set_option maxRecDepth 100000 in
theorem pred_Both.n_r2_0 (a0 : ByteArray) (a1 a2 a3 : Int) (a4 : ByteArray) (b0 : ByteArray) (b1 b2 b3 : Int) (b4 : ByteArray) (w : World) (h1 : decide (b1 < a1) = false) (k1 : (a1 == 1) = true) (k2 : (b1 != 1) = false) (m1 : ¬ a2 < b2) (m2 : ¬ b3 < a3) (k3 : decide (a3 < a2) = false) :
    Calls Tryz.prog 14 #[.agg #[.string a0, .int .i64 a1, .int .i64 a2, .int .i64 a3, .string a4], .agg #[.string b0, .int .i64 b1, .int .i64 b2, .int .i64 b3, .string b4]] w fun e w' => e = .returned (.tuple #[.agg #[.string a0, .int .i64 a1, .int .i64 a2, .int .i64 a3, .string a4], .bool true]) ∧ Below w.heap.size w w' := by
  have hu23 := Tryz.underlying23
  go_enter Tryz.func14, Tryz.ntmps14
  go_wp2
  go_region
  go_wp2
  refine bodyPost_ret (v := .tuple #[.agg #[.string a0, .int .i64 a1, .int .i64 a2, .int .i64 a3, .string a4], .bool true]) (by simp [results, Tryz.results14, go_sem]) rfl ⟨rfl, ?_⟩
  repeat (with_reducible first | exact Below.refl _ _ | apply below_alloc | apply pw_below_drewN | apply below_drew1 | refine below_set ?_ (by omega))

set_option maxHeartbeats 4000000 in
set_option maxRecDepth 100000 in
theorem pred_Both.n_r1_1 (a0 : ByteArray) (a1 a2 a3 : Int) (a4 : ByteArray) (b0 : ByteArray) (b1 b2 b3 : Int) (b4 : ByteArray) (w : World) (h1 : decide (b1 < a1) = false) (k1 : (a1 == 1) = true) (k2 : (b1 != 1) = false) (m1 : ¬ a2 < b2) (m2 : b3 < a3) (k3 : decide (b3 < a2) = true) :
    Calls Tryz.prog 14 #[.agg #[.string a0, .int .i64 a1, .int .i64 a2, .int .i64 a3, .string a4], .agg #[.string b0, .int .i64 b1, .int .i64 b2, .int .i64 b3, .string b4]] w fun e w' => e = .returned (.tuple #[.agg #[.string (⟨#[]⟩ : ByteArray), .int .i64 0, .int .i64 0, .int .i64 0, .string (⟨#[]⟩ : ByteArray)], .bool false]) ∧ Below w.heap.size w w' := by
  have hu23 := Tryz.underlying23
  go_enter Tryz.func14, Tryz.ntmps14
  go_wp2
  refine bodyPost_ret (v := .tuple #[.agg #[.string (⟨#[]⟩ : ByteArray), .int .i64 0, .int .i64 0, .int .i64 0, .string (⟨#[]⟩ : ByteArray)], .bool false]) (by simp [results, Tryz.results14, go_sem]) rfl ⟨rfl, ?_⟩
  repeat (with_reducible first | exact Below.refl _ _ | apply below_alloc | apply pw_below_drewN | apply below_drew1 | refine below_set ?_ (by omega))

set_option maxHeartbeats 4000000 in
set_option maxRecDepth 100000 in
theorem pred_Both.n_r2_1 (a0 : ByteArray) (a1 a2 a3 : Int) (a4 : ByteArray) (b0 : ByteArray) (b1 b2 b3 : Int) (b4 : ByteArray) (w : World) (h1 : decide (b1 < a1) = false) (k1 : (a1 == 1) = true) (k2 : (b1 != 1) = false) (m1 : ¬ a2 < b2) (m2 : b3 < a3) (k3 : decide (b3 < a2) = false) :
    Calls Tryz.prog 14 #[.agg #[.string a0, .int .i64 a1, .int .i64 a2, .int .i64 a3, .string a4], .agg #[.string b0, .int .i64 b1, .int .i64 b2, .int .i64 b3, .string b4]] w fun e w' => e = .returned (.tuple #[.agg #[.string a0, .int .i64 a1, .int .i64 a2, .int .i64 b3, .string a4], .bool true]) ∧ Below w.heap.size w w' := by
  have hu23 := Tryz.underlying23
  go_enter Tryz.func14, Tryz.ntmps14
  go_wp2
  go_region
  go_wp2
  refine bodyPost_ret (v := .tuple #[.agg #[.string a0, .int .i64 a1, .int .i64 a2, .int .i64 b3, .string a4], .bool true]) (by simp [results, Tryz.results14, go_sem]) rfl ⟨rfl, ?_⟩
  repeat (with_reducible first | exact Below.refl _ _ | apply below_alloc | apply pw_below_drewN | apply below_drew1 | refine below_set ?_ (by omega))

set_option maxHeartbeats 4000000 in
set_option maxRecDepth 100000 in
theorem pred_Both.n_r1_2 (a0 : ByteArray) (a1 a2 a3 : Int) (a4 : ByteArray) (b0 : ByteArray) (b1 b2 b3 : Int) (b4 : ByteArray) (w : World) (h1 : decide (b1 < a1) = false) (k1 : (a1 == 1) = true) (k2 : (b1 != 1) = false) (m1 : a2 < b2) (m2 : ¬ b3 < a3) (k3 : decide (a3 < b2) = true) :
    Calls Tryz.prog 14 #[.agg #[.string a0, .int .i64 a1, .int .i64 a2, .int .i64 a3, .string a4], .agg #[.string b0, .int .i64 b1, .int .i64 b2, .int .i64 b3, .string b4]] w fun e w' => e = .returned (.tuple #[.agg #[.string (⟨#[]⟩ : ByteArray), .int .i64 0, .int .i64 0, .int .i64 0, .string (⟨#[]⟩ : ByteArray)], .bool false]) ∧ Below w.heap.size w w' := by
  have hu23 := Tryz.underlying23
  go_enter Tryz.func14, Tryz.ntmps14
  go_wp2
  refine bodyPost_ret (v := .tuple #[.agg #[.string (⟨#[]⟩ : ByteArray), .int .i64 0, .int .i64 0, .int .i64 0, .string (⟨#[]⟩ : ByteArray)], .bool false]) (by simp [results, Tryz.results14, go_sem]) rfl ⟨rfl, ?_⟩
  repeat (with_reducible first | exact Below.refl _ _ | apply below_alloc | apply pw_below_drewN | apply below_drew1 | refine below_set ?_ (by omega))

set_option maxHeartbeats 4000000 in
set_option maxRecDepth 100000 in
theorem pred_Both.n_r2_2 (a0 : ByteArray) (a1 a2 a3 : Int) (a4 : ByteArray) (b0 : ByteArray) (b1 b2 b3 : Int) (b4 : ByteArray) (w : World) (h1 : decide (b1 < a1) = false) (k1 : (a1 == 1) = true) (k2 : (b1 != 1) = false) (m1 : a2 < b2) (m2 : ¬ b3 < a3) (k3 : decide (a3 < b2) = false) :
    Calls Tryz.prog 14 #[.agg #[.string a0, .int .i64 a1, .int .i64 a2, .int .i64 a3, .string a4], .agg #[.string b0, .int .i64 b1, .int .i64 b2, .int .i64 b3, .string b4]] w fun e w' => e = .returned (.tuple #[.agg #[.string a0, .int .i64 a1, .int .i64 b2, .int .i64 a3, .string a4], .bool true]) ∧ Below w.heap.size w w' := by
  have hu23 := Tryz.underlying23
  go_enter Tryz.func14, Tryz.ntmps14
  go_wp2
  go_region
  go_wp2
  refine bodyPost_ret (v := .tuple #[.agg #[.string a0, .int .i64 a1, .int .i64 b2, .int .i64 a3, .string a4], .bool true]) (by simp [results, Tryz.results14, go_sem]) rfl ⟨rfl, ?_⟩
  repeat (with_reducible first | exact Below.refl _ _ | apply below_alloc | apply pw_below_drewN | apply below_drew1 | refine below_set ?_ (by omega))

set_option maxHeartbeats 4000000 in
set_option maxRecDepth 100000 in
theorem pred_Both.n_r1_3 (a0 : ByteArray) (a1 a2 a3 : Int) (a4 : ByteArray) (b0 : ByteArray) (b1 b2 b3 : Int) (b4 : ByteArray) (w : World) (h1 : decide (b1 < a1) = false) (k1 : (a1 == 1) = true) (k2 : (b1 != 1) = false) (m1 : a2 < b2) (m2 : b3 < a3) (k3 : decide (b3 < b2) = true) :
    Calls Tryz.prog 14 #[.agg #[.string a0, .int .i64 a1, .int .i64 a2, .int .i64 a3, .string a4], .agg #[.string b0, .int .i64 b1, .int .i64 b2, .int .i64 b3, .string b4]] w fun e w' => e = .returned (.tuple #[.agg #[.string (⟨#[]⟩ : ByteArray), .int .i64 0, .int .i64 0, .int .i64 0, .string (⟨#[]⟩ : ByteArray)], .bool false]) ∧ Below w.heap.size w w' := by
  have hu23 := Tryz.underlying23
  go_enter Tryz.func14, Tryz.ntmps14
  go_wp2
  refine bodyPost_ret (v := .tuple #[.agg #[.string (⟨#[]⟩ : ByteArray), .int .i64 0, .int .i64 0, .int .i64 0, .string (⟨#[]⟩ : ByteArray)], .bool false]) (by simp [results, Tryz.results14, go_sem]) rfl ⟨rfl, ?_⟩
  repeat (with_reducible first | exact Below.refl _ _ | apply below_alloc | apply pw_below_drewN | apply below_drew1 | refine below_set ?_ (by omega))

set_option maxHeartbeats 4000000 in
set_option maxRecDepth 100000 in
theorem pred_Both.n_r2_3 (a0 : ByteArray) (a1 a2 a3 : Int) (a4 : ByteArray) (b0 : ByteArray) (b1 b2 b3 : Int) (b4 : ByteArray) (w : World) (h1 : decide (b1 < a1) = false) (k1 : (a1 == 1) = true) (k2 : (b1 != 1) = false) (m1 : a2 < b2) (m2 : b3 < a3) (k3 : decide (b3 < b2) = false) :
    Calls Tryz.prog 14 #[.agg #[.string a0, .int .i64 a1, .int .i64 a2, .int .i64 a3, .string a4], .agg #[.string b0, .int .i64 b1, .int .i64 b2, .int .i64 b3, .string b4]] w fun e w' => e = .returned (.tuple #[.agg #[.string a0, .int .i64 a1, .int .i64 b2, .int .i64 b3, .string a4], .bool true]) ∧ Below w.heap.size w w' := by
  have hu23 := Tryz.underlying23
  go_enter Tryz.func14, Tryz.ntmps14
  go_wp2
  go_region
  go_wp2
  refine bodyPost_ret (v := .tuple #[.agg #[.string a0, .int .i64 a1, .int .i64 b2, .int .i64 b3, .string a4], .bool true]) (by simp [results, Tryz.results14, go_sem]) rfl ⟨rfl, ?_⟩
  repeat (with_reducible first | exact Below.refl _ _ | apply below_alloc | apply pw_below_drewN | apply below_drew1 | refine below_set ?_ (by omega))

set_option maxHeartbeats 4000000 in
set_option maxRecDepth 100000 in
theorem pred_Both.n_o (a0 : ByteArray) (a1 a2 a3 : Int) (a4 : ByteArray) (b0 : ByteArray) (b1 b2 b3 : Int) (b4 : ByteArray) (w : World) (h1 : decide (b1 < a1) = false) (k1 : (a1 == 1) = false) (k2 : (a1 == 3) = false) (k3 : (a1 == 2) = false) :
    Calls Tryz.prog 14 #[.agg #[.string a0, .int .i64 a1, .int .i64 a2, .int .i64 a3, .string a4], .agg #[.string b0, .int .i64 b1, .int .i64 b2, .int .i64 b3, .string b4]] w fun e w' => e = .returned (.tuple #[.agg #[.string (⟨#[]⟩ : ByteArray), .int .i64 0, .int .i64 0, .int .i64 0, .string (⟨#[]⟩ : ByteArray)], .bool false]) ∧ Below w.heap.size w w' := by
  have hu23 := Tryz.underlying23
  go_enter Tryz.func14, Tryz.ntmps14
  go_wp2
  refine bodyPost_ret (v := .tuple #[.agg #[.string (⟨#[]⟩ : ByteArray), .int .i64 0, .int .i64 0, .int .i64 0, .string (⟨#[]⟩ : ByteArray)], .bool false]) (by simp [results, Tryz.results14, go_sem]) rfl ⟨rfl, ?_⟩
  repeat (with_reducible first | exact Below.refl _ _ | apply below_alloc | apply pw_below_drewN | apply below_drew1 | refine below_set ?_ (by omega))

set_option maxHeartbeats 4000000 in
set_option maxRecDepth 100000 in
theorem pred_Both.n_p_true (a0 : ByteArray) (a1 a2 a3 : Int) (a4 : ByteArray) (b0 : ByteArray) (b1 b2 b3 : Int) (b4 : ByteArray) (w : World) (h1 : decide (b1 < a1) = false) (k1 : (a1 == 1) = false) (k2 : (a1 == 3) = true) (k3 : decide (a4.size < b4.size) = false) (hH : Aside0 (pred_Holds.f b0 b1 b2 b3 b4 true 0 a4 = some true)) :
    Calls Tryz.prog 14 #[.agg #[.string a0, .int .i64 a1, .int .i64 a2, .int .i64 a3, .string a4], .agg #[.string b0, .int .i64 b1, .int .i64 b2, .int .i64 b3, .string b4]] w fun e w' => e = .returned (.tuple #[.agg #[.string a0, .int .i64 a1, .int .i64 a2, .int .i64 a3, .string a4], .bool true]) ∧ Below w.heap.size w w' := by
  have hu23 := Tryz.underlying23
  go_enter Tryz.func14, Tryz.ntmps14
  go_wp2_with fail
  go_region_held3 (fun w' => w'.cell? ⟨w.heap.size + 1, 0, none⟩ = some (.string b0) ∧ w'.cell? ⟨w.heap.size + 1, 1, none⟩ = some (.int .i64 b1) ∧ w'.cell? ⟨w.heap.size + 1, 2, none⟩ = some (.int .i64 b2) ∧ w'.cell? ⟨w.heap.size + 1, 3, none⟩ = some (.int .i64 b3) ∧ w'.cell? ⟨w.heap.size + 1, 4, none⟩ = some (.string b4) ∧ w'.cell? ⟨w.heap.size, 4, none⟩ = some (.string a4))
    (first | go_keep | (go_split_ands; refine ⟨?_, ?_, ?_, ?_, ?_, ?_⟩ <;> first | exact pw_cell_below hb1 ‹_› | exact pw_cell_below hb2 ‹_›))
    (first | (go_at_call 38; refine (value_Text.calls _ _ _ _ _ rfl).mono ?_; rintro e w1 ⟨rfl, hb1⟩) | (go_at_call 15; refine (pred_Holds.calls _ _ _ _ _ _ _ _ _ _ hH.out).mono ?_; rintro e w2 ⟨rfl, hb2⟩))
  have bk : ∀ (g : Nat) (o : Obj), g < w.heap.size + 4 → ((((w.alloc (.cells #[.string a0, .int .i64 a1, .int .i64 a2, .int .i64 a3, .string a4] 23)).alloc (.cells #[.string b0, .int .i64 b1, .int .i64 b2, .int .i64 b3, .string b4] 23)).alloc (.cells #[.string (⟨#[]⟩ : ByteArray), .int .i64 0, .int .i64 0, .int .i64 0, .string (⟨#[]⟩ : ByteArray)] 23)).alloc (.cells #[.string (⟨#[]⟩ : ByteArray), .int .i64 0, .int .i64 0, .int .i64 0, .string (⟨#[]⟩ : ByteArray)] 23)).heap[g]? = some o → w2.heap[g]? = some o := by
    intro g o hg h
    have s1 := hb1.size
    simp at s1
    rw [hb2.block g (by omega), hb1.block g (by simp; omega)]
    exact h
  have B0 := bk w.heap.size (.cells #[.string a0, .int .i64 a1, .int .i64 a2, .int .i64 a3, .string a4] 23) (by omega) (pred_Both.up (pred_Both.up (pred_Both.up (pred_Both.top _ _ rfl) _) _) _)
  have B2 := bk (w.heap.size + 1 + 1) (.cells #[.string (⟨#[]⟩ : ByteArray), .int .i64 0, .int .i64 0, .int .i64 0, .string (⟨#[]⟩ : ByteArray)] 23) (by omega) (pred_Both.up (pred_Both.top _ _ (by simp)) _)
  have B3 := bk (w.heap.size + 1 + 1 + 1) (.cells #[.string (⟨#[]⟩ : ByteArray), .int .i64 0, .int .i64 0, .int .i64 0, .string (⟨#[]⟩ : ByteArray)] 23) (by omega) (pred_Both.top _ _ (by simp))
  have q0 := fun i => blk_cell B0 i
  have q2 := fun i => blk_cell B2 i
  have q3 := fun i => blk_cell B3 i
  have f2 := fun i => blk_frozen B2 i
  have s1 := hb1.size
  simp at s1
  have s2 := hb2.size
  have hz2 : w.heap.size ≤ w2.heap.size := by omega
  have hB : Below w.heap.size w w2 := below_then (below_then (by repeat (first | exact Below.refl _ _ | apply below_alloc | apply below_drew1)) (by simp; omega) hb1) (by omega) hb2
  have HB := Aside0.mk hB
  clear bk B0 B2 B3 hb1 hb2 hB s1 s2
  go_wp2
  refine bodyPost_ret (v := .tuple #[.agg #[.string a0, .int .i64 a1, .int .i64 a2, .int .i64 a3, .string a4], .bool true]) (by simp [results, Tryz.results14, go_sem, q2]) rfl ⟨rfl, ?_⟩
  clear q0 q2 q3 f2
  repeat (with_reducible first | exact HB.out | apply below_alloc | apply pw_below_drewN | apply below_drew1 | refine below_set ?_ (by omega))

set_option maxHeartbeats 4000000 in
set_option maxRecDepth 100000 in
theorem pred_Both.n_p_false (a0 : ByteArray) (a1 a2 a3 : Int) (a4 : ByteArray) (b0 : ByteArray) (b1 b2 b3 : Int) (b4 : ByteArray) (w : World) (h1 : decide (b1 < a1) = false) (k1 : (a1 == 1) = false) (k2 : (a1 == 3) = true) (k3 : decide (a4.size < b4.size) = false) (hH : Aside0 (pred_Holds.f b0 b1 b2 b3 b4 true 0 a4 = some false)) :
    Calls Tryz.prog 14 #[.agg #[.string a0, .int .i64 a1, .int .i64 a2, .int .i64 a3, .string a4], .agg #[.string b0, .int .i64 b1, .int .i64 b2, .int .i64 b3, .string b4]] w fun e w' => e = .returned (.tuple #[.agg #[.string (⟨#[]⟩ : ByteArray), .int .i64 0, .int .i64 0, .int .i64 0, .string (⟨#[]⟩ : ByteArray)], .bool false]) ∧ Below w.heap.size w w' := by
  have hu23 := Tryz.underlying23
  go_enter Tryz.func14, Tryz.ntmps14
  go_wp2_with fail
  go_region_held3 (fun w' => w'.cell? ⟨w.heap.size + 1, 0, none⟩ = some (.string b0) ∧ w'.cell? ⟨w.heap.size + 1, 1, none⟩ = some (.int .i64 b1) ∧ w'.cell? ⟨w.heap.size + 1, 2, none⟩ = some (.int .i64 b2) ∧ w'.cell? ⟨w.heap.size + 1, 3, none⟩ = some (.int .i64 b3) ∧ w'.cell? ⟨w.heap.size + 1, 4, none⟩ = some (.string b4) ∧ w'.cell? ⟨w.heap.size, 4, none⟩ = some (.string a4))
    (first | go_keep | (go_split_ands; refine ⟨?_, ?_, ?_, ?_, ?_, ?_⟩ <;> first | exact pw_cell_below hb1 ‹_› | exact pw_cell_below hb2 ‹_›))
    (first | (go_at_call 38; refine (value_Text.calls _ _ _ _ _ rfl).mono ?_; rintro e w1 ⟨rfl, hb1⟩) | (go_at_call 15; refine (pred_Holds.calls _ _ _ _ _ _ _ _ _ _ hH.out).mono ?_; rintro e w2 ⟨rfl, hb2⟩))
  have bk : ∀ (g : Nat) (o : Obj), g < w.heap.size + 4 → ((((w.alloc (.cells #[.string a0, .int .i64 a1, .int .i64 a2, .int .i64 a3, .string a4] 23)).alloc (.cells #[.string b0, .int .i64 b1, .int .i64 b2, .int .i64 b3, .string b4] 23)).alloc (.cells #[.string (⟨#[]⟩ : ByteArray), .int .i64 0, .int .i64 0, .int .i64 0, .string (⟨#[]⟩ : ByteArray)] 23)).alloc (.cells #[.string (⟨#[]⟩ : ByteArray), .int .i64 0, .int .i64 0, .int .i64 0, .string (⟨#[]⟩ : ByteArray)] 23)).heap[g]? = some o → w2.heap[g]? = some o := by
    intro g o hg h
    have s1 := hb1.size
    simp at s1
    rw [hb2.block g (by omega), hb1.block g (by simp; omega)]
    exact h
  have B0 := bk w.heap.size (.cells #[.string a0, .int .i64 a1, .int .i64 a2, .int .i64 a3, .string a4] 23) (by omega) (pred_Both.up (pred_Both.up (pred_Both.up (pred_Both.top _ _ rfl) _) _) _)
  have B2 := bk (w.heap.size + 1 + 1) (.cells #[.string (⟨#[]⟩ : ByteArray), .int .i64 0, .int .i64 0, .int .i64 0, .string (⟨#[]⟩ : ByteArray)] 23) (by omega) (pred_Both.up (pred_Both.top _ _ (by simp)) _)
  have B3 := bk (w.heap.size + 1 + 1 + 1) (.cells #[.string (⟨#[]⟩ : ByteArray), .int .i64 0, .int .i64 0, .int .i64 0, .string (⟨#[]⟩ : ByteArray)] 23) (by omega) (pred_Both.top _ _ (by simp))
  have q0 := fun i => blk_cell B0 i
  have q2 := fun i => blk_cell B2 i
  have q3 := fun i => blk_cell B3 i
  have f2 := fun i => blk_frozen B2 i
  have s1 := hb1.size
  simp at s1
  have s2 := hb2.size
  have hz2 : w.heap.size ≤ w2.heap.size := by omega
  have hB : Below w.heap.size w w2 := below_then (below_then (by repeat (first | exact Below.refl _ _ | apply below_alloc | apply below_drew1)) (by simp; omega) hb1) (by omega) hb2
  have HB := Aside0.mk hB
  clear bk B0 B2 B3 hb1 hb2 hB s1 s2
  go_wp2
  refine bodyPost_ret (v := .tuple #[.agg #[.string (⟨#[]⟩ : ByteArray), .int .i64 0, .int .i64 0, .int .i64 0, .string (⟨#[]⟩ : ByteArray)], .bool false]) (by simp [results, Tryz.results14, go_sem, q2]) rfl ⟨rfl, ?_⟩
  clear q0 q2 q3 f2
  repeat (with_reducible first | exact HB.out | apply below_alloc | apply pw_below_drewN | apply below_drew1 | refine below_set ?_ (by omega))

set_option maxHeartbeats 4000000 in
set_option maxRecDepth 100000 in
theorem pred_Both.n_q_true (a0 : ByteArray) (a1 a2 a3 : Int) (a4 : ByteArray) (b0 : ByteArray) (b1 b2 b3 : Int) (b4 : ByteArray) (w : World) (h1 : decide (b1 < a1) = false) (k1 : (a1 == 1) = false) (k2 : (a1 == 3) = true) (k3 : decide (a4.size < b4.size) = true) (hH : Aside0 (pred_Holds.f a0 a1 a2 a3 a4 true 0 b4 = some true)) :
    Calls Tryz.prog 14 #[.agg #[.string a0, .int .i64 a1, .int .i64 a2, .int .i64 a3, .string a4], .agg #[.string b0, .int .i64 b1, .int .i64 b2, .int .i64 b3, .string b4]] w fun e w' => e = .returned (.tuple #[.agg #[.string b0, .int .i64 b1, .int .i64 b2, .int .i64 b3, .string b4], .bool true]) ∧ Below w.heap.size w w' := by
  have hu23 := Tryz.underlying23
  go_enter Tryz.func14, Tryz.ntmps14
  go_wp2_with fail
  go_region_held3 (fun w' => w'.cell? ⟨w.heap.size + 1, 0, none⟩ = some (.string a0) ∧ w'.cell? ⟨w.heap.size + 1, 1, none⟩ = some (.int .i64 a1) ∧ w'.cell? ⟨w.heap.size + 1, 2, none⟩ = some (.int .i64 a2) ∧ w'.cell? ⟨w.heap.size + 1, 3, none⟩ = some (.int .i64 a3) ∧ w'.cell? ⟨w.heap.size + 1, 4, none⟩ = some (.string a4) ∧ w'.cell? ⟨w.heap.size, 4, none⟩ = some (.string b4))
    (first | go_keep | (go_split_ands; refine ⟨?_, ?_, ?_, ?_, ?_, ?_⟩ <;> first | exact pw_cell_below hb1 ‹_› | exact pw_cell_below hb2 ‹_›))
    (first | (go_at_call 38; refine (value_Text.calls _ _ _ _ _ rfl).mono ?_; rintro e w1 ⟨rfl, hb1⟩) | (go_at_call 15; refine (pred_Holds.calls _ _ _ _ _ _ _ _ _ _ hH.out).mono ?_; rintro e w2 ⟨rfl, hb2⟩))
  have bk : ∀ (g : Nat) (o : Obj), g < w.heap.size + 4 → ((((w.alloc (.cells #[.string b0, .int .i64 b1, .int .i64 b2, .int .i64 b3, .string b4] 23)).alloc (.cells #[.string a0, .int .i64 a1, .int .i64 a2, .int .i64 a3, .string a4] 23)).alloc (.cells #[.string (⟨#[]⟩ : ByteArray), .int .i64 0, .int .i64 0, .int .i64 0, .string (⟨#[]⟩ : ByteArray)] 23)).alloc (.cells #[.string (⟨#[]⟩ : ByteArray), .int .i64 0, .int .i64 0, .int .i64 0, .string (⟨#[]⟩ : ByteArray)] 23)).heap[g]? = some o → w2.heap[g]? = some o := by
    intro g o hg h
    have s1 := hb1.size
    simp at s1
    rw [hb2.block g (by omega), hb1.block g (by simp; omega)]
    exact h
  have B0 := bk w.heap.size (.cells #[.string b0, .int .i64 b1, .int .i64 b2, .int .i64 b3, .string b4] 23) (by omega) (pred_Both.up (pred_Both.up (pred_Both.up (pred_Both.top _ _ rfl) _) _) _)
  have B2 := bk (w.heap.size + 1 + 1) (.cells #[.string (⟨#[]⟩ : ByteArray), .int .i64 0, .int .i64 0, .int .i64 0, .string (⟨#[]⟩ : ByteArray)] 23) (by omega) (pred_Both.up (pred_Both.top _ _ (by simp)) _)
  have B3 := bk (w.heap.size + 1 + 1 + 1) (.cells #[.string (⟨#[]⟩ : ByteArray), .int .i64 0, .int .i64 0, .int .i64 0, .string (⟨#[]⟩ : ByteArray)] 23) (by omega) (pred_Both.top _ _ (by simp))
  have q0 := fun i => blk_cell B0 i
  have q2 := fun i => blk_cell B2 i
  have q3 := fun i => blk_cell B3 i
  have f2 := fun i => blk_frozen B2 i
  have s1 := hb1.size
  simp at s1
  have s2 := hb2.size
  have hz2 : w.heap.size ≤ w2.heap.size := by omega
  have hB : Below w.heap.size w w2 := below_then (below_then (by repeat (first | exact Below.refl _ _ | apply below_alloc | apply below_drew1)) (by simp; omega) hb1) (by omega) hb2
  have HB := Aside0.mk hB
  clear bk B0 B2 B3 hb1 hb2 hB s1 s2
  go_wp2
  refine bodyPost_ret (v := .tuple #[.agg #[.string b0, .int .i64 b1, .int .i64 b2, .int .i64 b3, .string b4], .bool true]) (by simp [results, Tryz.results14, go_sem, q2]) rfl ⟨rfl, ?_⟩
  clear q0 q2 q3 f2
  repeat (with_reducible first | exact HB.out | apply below_alloc | apply pw_below_drewN | apply below_drew1 | refine below_set ?_ (by omega))

set_option maxHeartbeats 4000000 in
set_option maxRecDepth 100000 in
theorem pred_Both.n_q_false (a0 : ByteArray) (a1 a2 a3 : Int) (a4 : ByteArray) (b0 : ByteArray) (b1 b2 b3 : Int) (b4 : ByteArray) (w : World) (h1 : decide (b1 < a1) = false) (k1 : (a1 == 1) = false) (k2 : (a1 == 3) = true) (k3 : decide (a4.size < b4.size) = true) (hH : Aside0 (pred_Holds.f a0 a1 a2 a3 a4 true 0 b4 = some false)) :
    Calls Tryz.prog 14 #[.agg #[.string a0, .int .i64 a1, .int .i64 a2, .int .i64 a3, .string a4], .agg #[.string b0, .int .i64 b1, .int .i64 b2, .int .i64 b3, .string b4]] w fun e w' => e = .returned (.tuple #[.agg #[.string (⟨#[]⟩ : ByteArray), .int .i64 0, .int .i64 0, .int .i64 0, .string (⟨#[]⟩ : ByteArray)], .bool false]) ∧ Below w.heap.size w w' := by
  have hu23 := Tryz.underlying23
  go_enter Tryz.func14, Tryz.ntmps14
  go_wp2_with fail
  go_region_held3 (fun w' => w'.cell? ⟨w.heap.size + 1, 0, none⟩ = some (.string a0) ∧ w'.cell? ⟨w.heap.size + 1, 1, none⟩ = some (.int .i64 a1) ∧ w'.cell? ⟨w.heap.size + 1, 2, none⟩ = some (.int .i64 a2) ∧ w'.cell? ⟨w.heap.size + 1, 3, none⟩ = some (.int .i64 a3) ∧ w'.cell? ⟨w.heap.size + 1, 4, none⟩ = some (.string a4) ∧ w'.cell? ⟨w.heap.size, 4, none⟩ = some (.string b4))
    (first | go_keep | (go_split_ands; refine ⟨?_, ?_, ?_, ?_, ?_, ?_⟩ <;> first | exact pw_cell_below hb1 ‹_› | exact pw_cell_below hb2 ‹_›))
    (first | (go_at_call 38; refine (value_Text.calls _ _ _ _ _ rfl).mono ?_; rintro e w1 ⟨rfl, hb1⟩) | (go_at_call 15; refine (pred_Holds.calls _ _ _ _ _ _ _ _ _ _ hH.out).mono ?_; rintro e w2 ⟨rfl, hb2⟩))
  have bk : ∀ (g : Nat) (o : Obj), g < w.heap.size + 4 → ((((w.alloc (.cells #[.string b0, .int .i64 b1, .int .i64 b2, .int .i64 b3, .string b4] 23)).alloc (.cells #[.string a0, .int .i64 a1, .int .i64 a2, .int .i64 a3, .string a4] 23)).alloc (.cells #[.string (⟨#[]⟩ : ByteArray), .int .i64 0, .int .i64 0, .int .i64 0, .string (⟨#[]⟩ : ByteArray)] 23)).alloc (.cells #[.string (⟨#[]⟩ : ByteArray), .int .i64 0, .int .i64 0, .int .i64 0, .string (⟨#[]⟩ : ByteArray)] 23)).heap[g]? = some o → w2.heap[g]? = some o := by
    intro g o hg h
    have s1 := hb1.size
    simp at s1
    rw [hb2.block g (by omega), hb1.block g (by simp; omega)]
    exact h
  have B0 := bk w.heap.size (.cells #[.string b0, .int .i64 b1, .int .i64 b2, .int .i64 b3, .string b4] 23) (by omega) (pred_Both.up (pred_Both.up (pred_Both.up (pred_Both.top _ _ rfl) _) _) _)
  have B2 := bk (w.heap.size + 1 + 1) (.cells #[.string (⟨#[]⟩ : ByteArray), .int .i64 0, .int .i64 0, .int .i64 0, .string (⟨#[]⟩ : ByteArray)] 23) (by omega) (pred_Both.up (pred_Both.top _ _ (by simp)) _)
  have B3 := bk (w.heap.size + 1 + 1 + 1) (.cells #[.string (⟨#[]⟩ : ByteArray), .int .i64 0, .int .i64 0, .int .i64 0, .string (⟨#[]⟩ : ByteArray)] 23) (by omega) (pred_Both.top _ _ (by simp))
  have q0 := fun i => blk_cell B0 i
  have q2 := fun i => blk_cell B2 i
  have q3 := fun i => blk_cell B3 i
  have f2 := fun i => blk_frozen B2 i
  have s1 := hb1.size
  simp at s1
  have s2 := hb2.size
  have hz2 : w.heap.size ≤ w2.heap.size := by omega
  have hB : Below w.heap.size w w2 := below_then (below_then (by repeat (first | exact Below.refl _ _ | apply below_alloc | apply below_drew1)) (by simp; omega) hb1) (by omega) hb2
  have HB := Aside0.mk hB
  clear bk B0 B2 B3 hb1 hb2 hB s1 s2
  go_wp2
  refine bodyPost_ret (v := .tuple #[.agg #[.string (⟨#[]⟩ : ByteArray), .int .i64 0, .int .i64 0, .int .i64 0, .string (⟨#[]⟩ : ByteArray)], .bool false]) (by simp [results, Tryz.results14, go_sem, q2]) rfl ⟨rfl, ?_⟩
  clear q0 q2 q3 f2
  repeat (with_reducible first | exact HB.out | apply below_alloc | apply pw_below_drewN | apply below_drew1 | refine below_set ?_ (by omega))

set_option maxHeartbeats 4000000 in
set_option maxRecDepth 100000 in
theorem pred_Both.n_t_true (a0 : ByteArray) (a1 a2 a3 : Int) (a4 : ByteArray) (b0 : ByteArray) (b1 b2 b3 : Int) (b4 : ByteArray) (w : World) (h1 : decide (b1 < a1) = false) (k1 : (a1 == 1) = false) (k2 : (a1 == 3) = false) (k3 : (a1 == 2) = true) (hH : Aside0 (pred_Holds.f b0 b1 b2 b3 b4 true 0 a4 = some true)) :
    Calls Tryz.prog 14 #[.agg #[.string a0, .int .i64 a1, .int .i64 a2, .int .i64 a3, .string a4], .agg #[.string b0, .int .i64 b1, .int .i64 b2, .int .i64 b3, .string b4]] w fun e w' => e = .returned (.tuple #[.agg #[.string a0, .int .i64 a1, .int .i64 a2, .int .i64 a3, .string a4], .bool true]) ∧ Below w.heap.size w w' := by
  have hu23 := Tryz.underlying23
  go_enter Tryz.func14, Tryz.ntmps14
  go_wp2_with fail
  go_region_held3 (fun w' => w'.cell? ⟨w.heap.size + 1, 0, none⟩ = some (.string b0) ∧ w'.cell? ⟨w.heap.size + 1, 1, none⟩ = some (.int .i64 b1) ∧ w'.cell? ⟨w.heap.size + 1, 2, none⟩ = some (.int .i64 b2) ∧ w'.cell? ⟨w.heap.size + 1, 3, none⟩ = some (.int .i64 b3) ∧ w'.cell? ⟨w.heap.size + 1, 4, none⟩ = some (.string b4) ∧ w'.cell? ⟨w.heap.size, 4, none⟩ = some (.string a4))
    (first | go_keep | (go_split_ands; refine ⟨?_, ?_, ?_, ?_, ?_, ?_⟩ <;> first | exact pw_cell_below hb1 ‹_› | exact pw_cell_below hb2 ‹_›))
    (first | (go_at_call 38; refine (value_Text.calls _ _ _ _ _ rfl).mono ?_; rintro e w1 ⟨rfl, hb1⟩) | (go_at_call 15; refine (pred_Holds.calls _ _ _ _ _ _ _ _ _ _ hH.out).mono ?_; rintro e w2 ⟨rfl, hb2⟩))
  have bk : ∀ (g : Nat) (o : Obj), g < w.heap.size + 4 → ((((w.alloc (.cells #[.string a0, .int .i64 a1, .int .i64 a2, .int .i64 a3, .string a4] 23)).alloc (.cells #[.string b0, .int .i64 b1, .int .i64 b2, .int .i64 b3, .string b4] 23)).alloc (.cells #[.string (⟨#[]⟩ : ByteArray), .int .i64 0, .int .i64 0, .int .i64 0, .string (⟨#[]⟩ : ByteArray)] 23)).alloc (.cells #[.string (⟨#[]⟩ : ByteArray), .int .i64 0, .int .i64 0, .int .i64 0, .string (⟨#[]⟩ : ByteArray)] 23)).heap[g]? = some o → w2.heap[g]? = some o := by
    intro g o hg h
    have s1 := hb1.size
    simp at s1
    rw [hb2.block g (by omega), hb1.block g (by simp; omega)]
    exact h
  have B0 := bk w.heap.size (.cells #[.string a0, .int .i64 a1, .int .i64 a2, .int .i64 a3, .string a4] 23) (by omega) (pred_Both.up (pred_Both.up (pred_Both.up (pred_Both.top _ _ rfl) _) _) _)
  have B2 := bk (w.heap.size + 1 + 1) (.cells #[.string (⟨#[]⟩ : ByteArray), .int .i64 0, .int .i64 0, .int .i64 0, .string (⟨#[]⟩ : ByteArray)] 23) (by omega) (pred_Both.up (pred_Both.top _ _ (by simp)) _)
  have B3 := bk (w.heap.size + 1 + 1 + 1) (.cells #[.string (⟨#[]⟩ : ByteArray), .int .i64 0, .int .i64 0, .int .i64 0, .string (⟨#[]⟩ : ByteArray)] 23) (by omega) (pred_Both.top _ _ (by simp))
  have q0 := fun i => blk_cell B0 i
  have q2 := fun i => blk_cell B2 i
  have q3 := fun i => blk_cell B3 i
  have f2 := fun i => blk_frozen B2 i
  have s1 := hb1.size
  simp at s1
  have s2 := hb2.size
  have hz2 : w.heap.size ≤ w2.heap.size := by omega
  have hB : Below w.heap.size w w2 := below_then (below_then (by repeat (first | exact Below.refl _ _ | apply below_alloc | apply below_drew1)) (by simp; omega) hb1) (by omega) hb2
  have HB := Aside0.mk hB
  clear bk B0 B2 B3 hb1 hb2 hB s1 s2
  go_wp2
  refine bodyPost_ret (v := .tuple #[.agg #[.string a0, .int .i64 a1, .int .i64 a2, .int .i64 a3, .string a4], .bool true]) (by simp [results, Tryz.results14, go_sem, q2]) rfl ⟨rfl, ?_⟩
  clear q0 q2 q3 f2
  repeat (with_reducible first | exact HB.out | apply below_alloc | apply pw_below_drewN | apply below_drew1 | refine below_set ?_ (by omega))

set_option maxHeartbeats 4000000 in
set_option maxRecDepth 100000 in
theorem pred_Both.n_t_false (a0 : ByteArray) (a1 a2 a3 : Int) (a4 : ByteArray) (b0 : ByteArray) (b1 b2 b3 : Int) (b4 : ByteArray) (w : World) (h1 : decide (b1 < a1) = false) (k1 : (a1 == 1) = false) (k2 : (a1 == 3) = false) (k3 : (a1 == 2) = true) (hH : Aside0 (pred_Holds.f b0 b1 b2 b3 b4 true 0 a4 = some false)) :
    Calls Tryz.prog 14 #[.agg #[.string a0, .int .i64 a1, .int .i64 a2, .int .i64 a3, .string a4], .agg #[.string b0, .int .i64 b1, .int .i64 b2, .int .i64 b3, .string b4]] w fun e w' => e = .returned (.tuple #[.agg #[.string (⟨#[]⟩ : ByteArray), .int .i64 0, .int .i64 0, .int .i64 0, .string (⟨#[]⟩ : ByteArray)], .bool false]) ∧ Below w.heap.size w w' := by
  have hu23 := Tryz.underlying23
  go_enter Tryz.func14, Tryz.ntmps14
  go_wp2_with fail
  go_region_held3 (fun w' => w'.cell? ⟨w.heap.size + 1, 0, none⟩ = some (.string b0) ∧ w'.cell? ⟨w.heap.size + 1, 1, none⟩ = some (.int .i64 b1) ∧ w'.cell? ⟨w.heap.size + 1, 2, none⟩ = some (.int .i64 b2) ∧ w'.cell? ⟨w.heap.size + 1, 3, none⟩ = some (.int .i64 b3) ∧ w'.cell? ⟨w.heap.size + 1, 4, none⟩ = some (.string b4) ∧ w'.cell? ⟨w.heap.size, 4, none⟩ = some (.string a4))
    (first | go_keep | (go_split_ands; refine ⟨?_, ?_, ?_, ?_, ?_, ?_⟩ <;> first | exact pw_cell_below hb1 ‹_› | exact pw_cell_below hb2 ‹_›))
    (first | (go_at_call 38; refine (value_Text.calls _ _ _ _ _ rfl).mono ?_; rintro e w1 ⟨rfl, hb1⟩) | (go_at_call 15; refine (pred_Holds.calls _ _ _ _ _ _ _ _ _ _ hH.out).mono ?_; rintro e w2 ⟨rfl, hb2⟩))
  have bk : ∀ (g : Nat) (o : Obj), g < w.heap.size + 4 → ((((w.alloc (.cells #[.string a0, .int .i64 a1, .int .i64 a2, .int .i64 a3, .string a4] 23)).alloc (.cells #[.string b0, .int .i64 b1, .int .i64 b2, .int .i64 b3, .string b4] 23)).alloc (.cells #[.string (⟨#[]⟩ : ByteArray), .int .i64 0, .int .i64 0, .int .i64 0, .string (⟨#[]⟩ : ByteArray)] 23)).alloc (.cells #[.string (⟨#[]⟩ : ByteArray), .int .i64 0, .int .i64 0, .int .i64 0, .string (⟨#[]⟩ : ByteArray)] 23)).heap[g]? = some o → w2.heap[g]? = some o := by
    intro g o hg h
    have s1 := hb1.size
    simp at s1
    rw [hb2.block g (by omega), hb1.block g (by simp; omega)]
    exact h
  have B0 := bk w.heap.size (.cells #[.string a0, .int .i64 a1, .int .i64 a2, .int .i64 a3, .string a4] 23) (by omega) (pred_Both.up (pred_Both.up (pred_Both.up (pred_Both.top _ _ rfl) _) _) _)
  have B2 := bk (w.heap.size + 1 + 1) (.cells #[.string (⟨#[]⟩ : ByteArray), .int .i64 0, .int .i64 0, .int .i64 0, .string (⟨#[]⟩ : ByteArray)] 23) (by omega) (pred_Both.up (pred_Both.top _ _ (by simp)) _)
  have B3 := bk (w.heap.size + 1 + 1 + 1) (.cells #[.string (⟨#[]⟩ : ByteArray), .int .i64 0, .int .i64 0, .int .i64 0, .string (⟨#[]⟩ : ByteArray)] 23) (by omega) (pred_Both.top _ _ (by simp))
  have q0 := fun i => blk_cell B0 i
  have q2 := fun i => blk_cell B2 i
  have q3 := fun i => blk_cell B3 i
  have f2 := fun i => blk_frozen B2 i
  have s1 := hb1.size
  simp at s1
  have s2 := hb2.size
  have hz2 : w.heap.size ≤ w2.heap.size := by omega
  have hB : Below w.heap.size w w2 := below_then (below_then (by repeat (first | exact Below.refl _ _ | apply below_alloc | apply below_drew1)) (by simp; omega) hb1) (by omega) hb2
  have HB := Aside0.mk hB
  clear bk B0 B2 B3 hb1 hb2 hB s1 s2
  go_wp2
  refine bodyPost_ret (v := .tuple #[.agg #[.string (⟨#[]⟩ : ByteArray), .int .i64 0, .int .i64 0, .int .i64 0, .string (⟨#[]⟩ : ByteArray)], .bool false]) (by simp [results, Tryz.results14, go_sem, q2]) rfl ⟨rfl, ?_⟩
  clear q0 q2 q3 f2
  repeat (with_reducible first | exact HB.out | apply below_alloc | apply pw_below_drewN | apply below_drew1 | refine below_set ?_ (by omega))

set_option maxHeartbeats 4000000 in
set_option maxRecDepth 100000 in
theorem pred_Both.s_r0 (a0 : ByteArray) (a1 a2 a3 : Int) (a4 : ByteArray) (b0 : ByteArray) (b1 b2 b3 : Int) (b4 : ByteArray) (w : World) (h1 : decide (b1 < a1) = true) (k1 : (b1 == 1) = true) (k2 : (a1 != 1) = true) :
    Calls Tryz.prog 14 #[.agg #[.string a0, .int .i64 a1, .int .i64 a2, .int .i64 a3, .string a4], .agg #[.string b0, .int .i64 b1, .int .i64 b2, .int .i64 b3, .string b4]] w fun e w' => e = .returned (.tuple #[.agg #[.string (⟨#[]⟩ : ByteArray), .int .i64 0, .int .i64 0, .int .i64 0, .string (⟨#[]⟩ : ByteArray)], .bool false]) ∧ Below w.heap.size w w' := by
  have hu23 := Tryz.underlying23
  go_enter Tryz.func14, Tryz.ntmps14
  go_wp2
  refine bodyPost_ret (v := .tuple #[.agg #[.string (⟨#[]⟩ : ByteArray), .int .i64 0, .int .i64 0, .int .i64 0, .string (⟨#[]⟩ : ByteArray)], .bool false]) (by simp [results, Tryz.results14, go_sem]) rfl ⟨rfl, ?_⟩
  repeat (with_reducible first | exact Below.refl _ _ | apply below_alloc | apply pw_below_drewN | apply below_drew1 | refine below_set ?_ (by omega))

set_option maxHeartbeats 4000000 in
set_option maxRecDepth 100000 in
theorem pred_Both.s_r1_0 (a0 : ByteArray) (a1 a2 a3 : Int) (a4 : ByteArray) (b0 : ByteArray) (b1 b2 b3 : Int) (b4 : ByteArray) (w : World) (h1 : decide (b1 < a1) = true) (k1 : (b1 == 1) = true) (k2 : (a1 != 1) = false) (m1 : ¬ b2 < a2) (m2 : ¬ a3 < b3) (k3 : decide (b3 < b2) = true) :
    Calls Tryz.prog 14 #[.agg #[.string a0, .int .i64 a1, .int .i64 a2, .int .i64 a3, .string a4], .agg #[.string b0, .int .i64 b1, .int .i64 b2, .int .i64 b3, .string b4]] w fun e w' => e = .returned (.tuple #[.agg #[.string (⟨#[]⟩ : ByteArray), .int .i64 0, .int .i64 0, .int .i64 0, .string (⟨#[]⟩ : ByteArray)], .bool false]) ∧ Below w.heap.size w w' := by
  have hu23 := Tryz.underlying23
  go_enter Tryz.func14, Tryz.ntmps14
  go_wp2
  refine bodyPost_ret (v := .tuple #[.agg #[.string (⟨#[]⟩ : ByteArray), .int .i64 0, .int .i64 0, .int .i64 0, .string (⟨#[]⟩ : ByteArray)], .bool false]) (by simp [results, Tryz.results14, go_sem]) rfl ⟨rfl, ?_⟩
  repeat (with_reducible first | exact Below.refl _ _ | apply below_alloc | apply pw_below_drewN | apply below_drew1 | refine below_set ?_ (by omega))

set_option maxHeartbeats 4000000 in
set_option maxRecDepth 100000 in
theorem pred_Both.s_r2_0 (a0 : ByteArray) (a1 a2 a3 : Int) (a4 : ByteArray) (b0 : ByteArray) (b1 b2 b3 : Int) (b4 : ByteArray) (w : World) (h1 : decide (b1 < a1) = true) (k1 : (b1 == 1) = true) (k2 : (a1 != 1) = false) (m1 : ¬ b2 < a2) (m2 : ¬ a3 < b3) (k3 : decide (b3 < b2) = false) :
    Calls Tryz.prog 14 #[.agg #[.string a0, .int .i64 a1, .int .i64 a2, .int .i64 a3, .string a4], .agg #[.string b0, .int .i64 b1, .int .i64 b2, .int .i64 b3, .string b4]] w fun e w' => e = .returned (.tuple #[.agg #[.string b0, .int .i64 b1, .int .i64 b2, .int .i64 b3, .string b4], .bool true]) ∧ Below w.heap.size w w' := by
  have hu23 := Tryz.underlying23
  go_enter Tryz.func14, Tryz.ntmps14
  go_wp2
  go_region
  go_wp2
  refine bodyPost_ret (v := .tuple #[.agg #[.string b0, .int .i64 b1, .int .i64 b2, .int .i64 b3, .string b4], .bool true]) (by simp [results, Tryz.results14, go_sem]) rfl ⟨rfl, ?_⟩
  repeat (with_reducible first | exact Below.refl _ _ | apply below_alloc | apply pw_below_drewN | apply below_drew1 | refine below_set ?_ (by omega))

set_option maxHeartbeats 4000000 in
set_option maxRecDepth 100000 in
theorem pred_Both.s_r1_1 (a0 : ByteArray) (a1 a2 a3 : Int) (a4 : ByteArray) (b0 : ByteArray) (b1 b2 b3 : Int) (b4 : ByteArray) (w : World) (h1 : decide (b1 < a1) = true) (k1 : (b1 == 1) = true) (k2 : (a1 != 1) = false) (m1 : ¬ b2 < a2) (m2 : a3 < b3) (k3 : decide (a3 < b2) = true) :
    Calls Tryz.prog 14 #[.agg #[.string a0, .int .i64 a1, .int .i64 a2, .int .i64 a3, .string a4], .agg #[.string b0, .int .i64 b1, .int .i64 b2, .int .i64 b3, .string b4]] w fun e w' => e = .returned (.tuple #[.agg #[.string (⟨#[]⟩ : ByteArray), .int .i64 0, .int .i64 0, .int .i64 0, .string (⟨#[]⟩ : ByteArray)], .bool false]) ∧ Below w.heap.size w w' := by
  have hu23 := Tryz.underlying23
  go_enter Tryz.func14, Tryz.ntmps14
  go_wp2
  refine bodyPost_ret (v := .tuple #[.agg #[.string (⟨#[]⟩ : ByteArray), .int .i64 0, .int .i64 0, .int .i64 0, .string (⟨#[]⟩ : ByteArray)], .bool false]) (by simp [results, Tryz.results14, go_sem]) rfl ⟨rfl, ?_⟩
  repeat (with_reducible first | exact Below.refl _ _ | apply below_alloc | apply pw_below_drewN | apply below_drew1 | refine below_set ?_ (by omega))

set_option maxHeartbeats 4000000 in
set_option maxRecDepth 100000 in
theorem pred_Both.s_r2_1 (a0 : ByteArray) (a1 a2 a3 : Int) (a4 : ByteArray) (b0 : ByteArray) (b1 b2 b3 : Int) (b4 : ByteArray) (w : World) (h1 : decide (b1 < a1) = true) (k1 : (b1 == 1) = true) (k2 : (a1 != 1) = false) (m1 : ¬ b2 < a2) (m2 : a3 < b3) (k3 : decide (a3 < b2) = false) :
    Calls Tryz.prog 14 #[.agg #[.string a0, .int .i64 a1, .int .i64 a2, .int .i64 a3, .string a4], .agg #[.string b0, .int .i64 b1, .int .i64 b2, .int .i64 b3, .string b4]] w fun e w' => e = .returned (.tuple #[.agg #[.string b0, .int .i64 b1, .int .i64 b2, .int .i64 a3, .string b4], .bool true]) ∧ Below w.heap.size w w' := by
  have hu23 := Tryz.underlying23
  go_enter Tryz.func14, Tryz.ntmps14
  go_wp2
  go_region
  go_wp2
  refine bodyPost_ret (v := .tuple #[.agg #[.string b0, .int .i64 b1, .int .i64 b2, .int .i64 a3, .string b4], .bool true]) (by simp [results, Tryz.results14, go_sem]) rfl ⟨rfl, ?_⟩
  repeat (with_reducible first | exact Below.refl _ _ | apply below_alloc | apply pw_below_drewN | apply below_drew1 | refine below_set ?_ (by omega))

set_option maxHeartbeats 4000000 in
set_option maxRecDepth 100000 in
theorem pred_Both.s_r1_2 (a0 : ByteArray) (a1 a2 a3 : Int) (a4 : ByteArray) (b0 : ByteArray) (b1 b2 b3 : Int) (b4 : ByteArray) (w : World) (h1 : decide (b1 < a1) = true) (k1 : (b1 == 1) = true) (k2 : (a1 != 1) = false) (m1 : b2 < a2) (m2 : ¬ a3 < b3) (k3 : decide (b3 < a2) = true) :
    Calls Tryz.prog 14 #[.agg #[.string a0, .int .i64 a1, .int .i64 a2, .int .i64 a3, .string a4], .agg #[.string b0, .int .i64 b1, .int .i64 b2, .int .i64 b3, .string b4]] w fun e w' => e = .returned (.tuple #[.agg #[.string (⟨#[]⟩ : ByteArray), .int .i64 0, .int .i64 0, .int .i64 0, .string (⟨#[]⟩ : ByteArray)], .bool false]) ∧ Below w.heap.size w w' := by
  have hu23 := Tryz.underlying23
  go_enter Tryz.func14, Tryz.ntmps14
  go_wp2
  refine bodyPost_ret (v := .tuple #[.agg #[.string (⟨#[]⟩ : ByteArray), .int .i64 0, .int .i64 0, .int .i64 0, .string (⟨#[]⟩ : ByteArray)], .bool false]) (by simp [results, Tryz.results14, go_sem]) rfl ⟨rfl, ?_⟩
  repeat (with_reducible first | exact Below.refl _ _ | apply below_alloc | apply pw_below_drewN | apply below_drew1 | refine below_set ?_ (by omega))

set_option maxHeartbeats 4000000 in
set_option maxRecDepth 100000 in
theorem pred_Both.s_r2_2 (a0 : ByteArray) (a1 a2 a3 : Int) (a4 : ByteArray) (b0 : ByteArray) (b1 b2 b3 : Int) (b4 : ByteArray) (w : World) (h1 : decide (b1 < a1) = true) (k1 : (b1 == 1) = true) (k2 : (a1 != 1) = false) (m1 : b2 < a2) (m2 : ¬ a3 < b3) (k3 : decide (b3 < a2) = false) :
    Calls Tryz.prog 14 #[.agg #[.string a0, .int .i64 a1, .int .i64 a2, .int .i64 a3, .string a4], .agg #[.string b0, .int .i64 b1, .int .i64 b2, .int .i64 b3, .string b4]] w fun e w' => e = .returned (.tuple #[.agg #[.string b0, .int .i64 b1, .int .i64 a2, .int .i64 b3, .string b4], .bool true]) ∧ Below w.heap.size w w' := by
  have hu23 := Tryz.underlying23
  go_enter Tryz.func14, Tryz.ntmps14
  go_wp2
  go_region
  go_wp2
  refine bodyPost_ret (v := .tuple #[.agg #[.string b0, .int .i64 b1, .int .i64 a2, .int .i64 b3, .string b4], .bool true]) (by simp [results, Tryz.results14, go_sem]) rfl ⟨rfl, ?_⟩
  repeat (with_reducible first | exact Below.refl _ _ | apply below_alloc | apply pw_below_drewN | apply below_drew1 | refine below_set ?_ (by omega))

set_option maxHeartbeats 4000000 in
set_option maxRecDepth 100000 in
theorem pred_Both.s_r1_3 (a0 : ByteArray) (a1 a2 a3 : Int) (a4 : ByteArray) (b0 : ByteArray) (b1 b2 b3 : Int) (b4 : ByteArray) (w : World) (h1 : decide (b1 < a1) = true) (k1 : (b1 == 1) = true) (k2 : (a1 != 1) = false) (m1 : b2 < a2) (m2 : a3 < b3) (k3 : decide (a3 < a2) = true) :
    Calls Tryz.prog 14 #[.agg #[.string a0, .int .i64 a1, .int .i64 a2, .int .i64 a3, .string a4], .agg #[.string b0, .int .i64 b1, .int .i64 b2, .int .i64 b3, .string b4]] w fun e w' => e = .returned (.tuple #[.agg #[.string (⟨#[]⟩ : ByteArray), .int .i64 0, .int .i64 0, .int .i64 0, .string (⟨#[]⟩ : ByteArray)], .bool false]) ∧ Below w.heap.size w w' := by
  have hu23 := Tryz.underlying23
  go_enter Tryz.func14, Tryz.ntmps14
  go_wp2
  refine bodyPost_ret (v := .tuple #[.agg #[.string (⟨#[]⟩ : ByteArray), .int .i64 0, .int .i64 0, .int .i64 0, .string (⟨#[]⟩ : ByteArray)], .bool false]) (by simp [results, Tryz.results14, go_sem]) rfl ⟨rfl, ?_⟩
  repeat (with_reducible first | exact Below.refl _ _ | apply below_alloc | apply pw_below_drewN | apply below_drew1 | refine below_set ?_ (by omega))

set_option maxHeartbeats 4000000 in
set_option maxRecDepth 100000 in
theorem pred_Both.s_r2_3 (a0 : ByteArray) (a1 a2 a3 : Int) (a4 : ByteArray) (b0 : ByteArray) (b1 b2 b3 : Int) (b4 : ByteArray) (w : World) (h1 : decide (b1 < a1) = true) (k1 : (b1 == 1) = true) (k2 : (a1 != 1) = false) (m1 : b2 < a2) (m2 : a3 < b3) (k3 : decide (a3 < a2) = false) :
    Calls Tryz.prog 14 #[.agg #[.string a0, .int .i64 a1, .int .i64 a2, .int .i64 a3, .string a4], .agg #[.string b0, .int .i64 b1, .int .i64 b2, .int .i64 b3, .string b4]] w fun e w' => e = .returned (.tuple #[.agg #[.string b0, .int .i64 b1, .int .i64 a2, .int .i64 a3, .string b4], .bool true]) ∧ Below w.heap.size w w' := by
  have hu23 := Tryz.underlying23
  go_enter Tryz.func14, Tryz.ntmps14
  go_wp2
  go_region
  go_wp2
  refine bodyPost_ret (v := .tuple #[.agg #[.string b0, .int .i64 b1, .int .i64 a2, .int .i64 a3, .string b4], .bool true]) (by simp [results, Tryz.results14, go_sem]) rfl ⟨rfl, ?_⟩
  repeat (with_reducible first | exact Below.refl _ _ | apply below_alloc | apply pw_below_drewN | apply below_drew1 | refine below_set ?_ (by omega))

set_option maxHeartbeats 4000000 in
set_option maxRecDepth 100000 in
theorem pred_Both.s_o (a0 : ByteArray) (a1 a2 a3 : Int) (a4 : ByteArray) (b0 : ByteArray) (b1 b2 b3 : Int) (b4 : ByteArray) (w : World) (h1 : decide (b1 < a1) = true) (k1 : (b1 == 1) = false) (k2 : (b1 == 3) = false) (k3 : (b1 == 2) = false) :
    Calls Tryz.prog 14 #[.agg #[.string a0, .int .i64 a1, .int .i64 a2, .int .i64 a3, .string a4], .agg #[.string b0, .int .i64 b1, .int .i64 b2, .int .i64 b3, .string b4]] w fun e w' => e = .returned (.tuple #[.agg #[.string (⟨#[]⟩ : ByteArray), .int .i64 0, .int .i64 0, .int .i64 0, .string (⟨#[]⟩ : ByteArray)], .bool false]) ∧ Below w.heap.size w w' := by
  have hu23 := Tryz.underlying23
  go_enter Tryz.func14, Tryz.ntmps14
  go_wp2
  refine bodyPost_ret (v := .tuple #[.agg #[.string (⟨#[]⟩ : ByteArray), .int .i64 0, .int .i64 0, .int .i64 0, .string (⟨#[]⟩ : ByteArray)], .bool false]) (by simp [results, Tryz.results14, go_sem]) rfl ⟨rfl, ?_⟩
  repeat (with_reducible first | exact Below.refl _ _ | apply below_alloc | apply pw_below_drewN | apply below_drew1 | refine below_set ?_ (by omega))

set_option maxHeartbeats 4000000 in
set_option maxRecDepth 100000 in
theorem pred_Both.s_p_true (a0 : ByteArray) (a1 a2 a3 : Int) (a4 : ByteArray) (b0 : ByteArray) (b1 b2 b3 : Int) (b4 : ByteArray) (w : World) (h1 : decide (b1 < a1) = true) (k1 : (b1 == 1) = false) (k2 : (b1 == 3) = true) (k3 : decide (b4.size < a4.size) = false) (hH : Aside0 (pred_Holds.f a0 a1 a2 a3 a4 true 0 b4 = some true)) :
    Calls Tryz.prog 14 #[.agg #[.string a0, .int .i64 a1, .int .i64 a2, .int .i64 a3, .string a4], .agg #[.string b0, .int .i64 b1, .int .i64 b2, .int .i64 b3, .string b4]] w fun e w' => e = .returned (.tuple #[.agg #[.string b0, .int .i64 b1, .int .i64 b2, .int .i64 b3, .string b4], .bool true]) ∧ Below w.heap.size w w' := by
  have hu23 := Tryz.underlying23
  go_enter Tryz.func14, Tryz.ntmps14
  go_wp2_with fail
  go_region_held3 (fun w' => w'.cell? ⟨w.heap.size + 1, 0, none⟩ = some (.string a0) ∧ w'.cell? ⟨w.heap.size + 1, 1, none⟩ = some (.int .i64 a1) ∧ w'.cell? ⟨w.heap.size + 1, 2, none⟩ = some (.int .i64 a2) ∧ w'.cell? ⟨w.heap.size + 1, 3, none⟩ = some (.int .i64 a3) ∧ w'.cell? ⟨w.heap.size + 1, 4, none⟩ = some (.string a4) ∧ w'.cell? ⟨w.heap.size, 4, none⟩ = some (.string b4))
    (first | go_keep | (go_split_ands; refine ⟨?_, ?_, ?_, ?_, ?_, ?_⟩ <;> first | exact pw_cell_below hb1 ‹_› | exact pw_cell_below hb2 ‹_›))
    (first | (go_at_call 38; refine (value_Text.calls _ _ _ _ _ rfl).mono ?_; rintro e w1 ⟨rfl, hb1⟩) | (go_at_call 15; refine (pred_Holds.calls _ _ _ _ _ _ _ _ _ _ hH.out).mono ?_; rintro e w2 ⟨rfl, hb2⟩))
  have bk : ∀ (g : Nat) (o : Obj), g < w.heap.size + 4 → ((((w.alloc (.cells #[.string b0, .int .i64 b1, .int .i64 b2, .int .i64 b3, .string b4] 23)).alloc (.cells #[.string a0, .int .i64 a1, .int .i64 a2, .int .i64 a3, .string a4] 23)).alloc (.cells #[.string (⟨#[]⟩ : ByteArray), .int .i64 0, .int .i64 0, .int .i64 0, .string (⟨#[]⟩ : ByteArray)] 23)).alloc (.cells #[.string (⟨#[]⟩ : ByteArray), .int .i64 0, .int .i64 0, .int .i64 0, .string (⟨#[]⟩ : ByteArray)] 23)).heap[g]? = some o → w2.heap[g]? = some o := by
    intro g o hg h
    have s1 := hb1.size
    simp at s1
    rw [hb2.block g (by omega), hb1.block g (by simp; omega)]
    exact h
  have B0 := bk w.heap.size (.cells #[.string b0, .int .i64 b1, .int .i64 b2, .int .i64 b3, .string b4] 23) (by omega) (pred_Both.up (pred_Both.up (pred_Both.up (pred_Both.top _ _ rfl) _) _) _)
  have B2 := bk (w.heap.size + 1 + 1) (.cells #[.string (⟨#[]⟩ : ByteArray), .int .i64 0, .int .i64 0, .int .i64 0, .string (⟨#[]⟩ : ByteArray)] 23) (by omega) (pred_Both.up (pred_Both.top _ _ (by simp)) _)
  have B3 := bk (w.heap.size + 1 + 1 + 1) (.cells #[.string (⟨#[]⟩ : ByteArray), .int .i64 0, .int .i64 0, .int .i64 0, .string (⟨#[]⟩ : ByteArray)] 23) (by omega) (pred_Both.top _ _ (by simp))
  have q0 := fun i => blk_cell B0 i
  have q2 := fun i => blk_cell B2 i
  have q3 := fun i => blk_cell B3 i
  have f2 := fun i => blk_frozen B2 i
  have s1 := hb1.size
  simp at s1
  have s2 := hb2.size
  have hz2 : w.heap.size ≤ w2.heap.size := by omega
  have hB : Below w.heap.size w w2 := below_then (below_then (by repeat (first | exact Below.refl _ _ | apply below_alloc | apply below_drew1)) (by simp; omega) hb1) (by omega) hb2
  have HB := Aside0.mk hB
  clear bk B0 B2 B3 hb1 hb2 hB s1 s2
  go_wp2
  refine bodyPost_ret (v := .tuple #[.agg #[.string b0, .int .i64 b1, .int .i64 b2, .int .i64 b3, .string b4], .bool true]) (by simp [results, Tryz.results14, go_sem, q2]) rfl ⟨rfl, ?_⟩
  clear q0 q2 q3 f2
  repeat (with_reducible first | exact HB.out | apply below_alloc | apply pw_below_drewN | apply below_drew1 | refine below_set ?_ (by omega))

set_option maxHeartbeats 4000000 in
set_option maxRecDepth 100000 in
theorem pred_Both.s_p_false (a0 : ByteArray) (a1 a2 a3 : Int) (a4 : ByteArray) (b0 : ByteArray) (b1 b2 b3 : Int) (b4 : ByteArray) (w : World) (h1 : decide (b1 < a1) = true) (k1 : (b1 == 1) = false) (k2 : (b1 == 3) = true) (k3 : decide (b4.size < a4.size) = false) (hH : Aside0 (pred_Holds.f a0 a1 a2 a3 a4 true 0 b4 = some false)) :
    Calls Tryz.prog 14 #[.agg #[.string a0, .int .i64 a1, .int .i64 a2, .int .i64 a3, .string a4], .agg #[.string b0, .int .i64 b1, .int .i64 b2, .int .i64 b3, .string b4]] w fun e w' => e = .returned (.tuple #[.agg #[.string (⟨#[]⟩ : ByteArray), .int .i64 0, .int .i64 0, .int .i64 0, .string (⟨#[]⟩ : ByteArray)], .bool false]) ∧ Below w.heap.size w w' := by
  have hu23 := Tryz.underlying23
  go_enter Tryz.func14, Tryz.ntmps14
  go_wp2_with fail
  go_region_held3 (fun w' => w'.cell? ⟨w.heap.size + 1, 0, none⟩ = some (.string a0) ∧ w'.cell? ⟨w.heap.size + 1, 1, none⟩ = some (.int .i64 a1) ∧ w'.cell? ⟨w.heap.size + 1, 2, none⟩ = some (.int .i64 a2) ∧ w'.cell? ⟨w.heap.size + 1, 3, none⟩ = some (.int .i64 a3) ∧ w'.cell? ⟨w.heap.size + 1, 4, none⟩ = some (.string a4) ∧ w'.cell? ⟨w.heap.size, 4, none⟩ = some (.string b4))
    (first | go_keep | (go_split_ands; refine ⟨?_, ?_, ?_, ?_, ?_, ?_⟩ <;> first | exact pw_cell_below hb1 ‹_› | exact pw_cell_below hb2 ‹_›))
    (first | (go_at_call 38; refine (value_Text.calls _ _ _ _ _ rfl).mono ?_; rintro e w1 ⟨rfl, hb1⟩) | (go_at_call 15; refine (pred_Holds.calls _ _ _ _ _ _ _ _ _ _ hH.out).mono ?_; rintro e w2 ⟨rfl, hb2⟩))
  have bk : ∀ (g : Nat) (o : Obj), g < w.heap.size + 4 → ((((w.alloc (.cells #[.string b0, .int .i64 b1, .int .i64 b2, .int .i64 b3, .string b4] 23)).alloc (.cells #[.string a0, .int .i64 a1, .int .i64 a2, .int .i64 a3, .string a4] 23)).alloc (.cells #[.string (⟨#[]⟩ : ByteArray), .int .i64 0, .int .i64 0, .int .i64 0, .string (⟨#[]⟩ : ByteArray)] 23)).alloc (.cells #[.string (⟨#[]⟩ : ByteArray), .int .i64 0, .int .i64 0, .int .i64 0, .string (⟨#[]⟩ : ByteArray)] 23)).heap[g]? = some o → w2.heap[g]? = some o := by
    intro g o hg h
    have s1 := hb1.size
    simp at s1
    rw [hb2.block g (by omega), hb1.block g (by simp; omega)]
    exact h
  have B0 := bk w.heap.size (.cells #[.string b0, .int .i64 b1, .int .i64 b2, .int .i64 b3, .string b4] 23) (by omega) (pred_Both.up (pred_Both.up (pred_Both.up (pred_Both.top _ _ rfl) _) _) _)
  have B2 := bk (w.heap.size + 1 + 1) (.cells #[.string (⟨#[]⟩ : ByteArray), .int .i64 0, .int .i64 0, .int .i64 0, .string (⟨#[]⟩ : ByteArray)] 23) (by omega) (pred_Both.up (pred_Both.top _ _ (by simp)) _)
  have B3 := bk (w.heap.size + 1 + 1 + 1) (.cells #[.string (⟨#[]⟩ : ByteArray), .int .i64 0, .int .i64 0, .int .i64 0, .string (⟨#[]⟩ : ByteArray)] 23) (by omega) (pred_Both.top _ _ (by simp))
  have q0 := fun i => blk_cell B0 i
  have q2 := fun i => blk_cell B2 i
  have q3 := fun i => blk_cell B3 i
  have f2 := fun i => blk_frozen B2 i
  have s1 := hb1.size
  simp at s1
  have s2 := hb2.size
  have hz2 : w.heap.size ≤ w2.heap.size := by omega
  have hB : Below w.heap.size w w2 := below_then (below_then (by repeat (first | exact Below.refl _ _ | apply below_alloc | apply below_drew1)) (by simp; omega) hb1) (by omega) hb2
  have HB := Aside0.mk hB
  clear bk B0 B2 B3 hb1 hb2 hB s1 s2
  go_wp2
  refine bodyPost_ret (v := .tuple #[.agg #[.string (⟨#[]⟩ : ByteArray), .int .i64 0, .int .i64 0, .int .i64 0, .string (⟨#[]⟩ : ByteArray)], .bool false]) (by simp [results, Tryz.results14, go_sem, q2]) rfl ⟨rfl, ?_⟩
  clear q0 q2 q3 f2
  repeat (with_reducible first | exact HB.out | apply below_alloc | apply pw_below_drewN | apply below_drew1 | refine below_set ?_ (by omega))

set_option maxHeartbeats 4000000 in
set_option maxRecDepth 100000 in
theorem pred_Both.s_q_true (a0 : ByteArray) (a1 a2 a3 : Int) (a4 : ByteArray) (b0 : ByteArray) (b1 b2 b3 : Int) (b4 : ByteArray) (w : World) (h1 : decide (b1 < a1) = true) (k1 : (b1 == 1) = false) (k2 : (b1 == 3) = true) (k3 : decide (b4.size < a4.size) = true) (hH : Aside0 (pred_Holds.f b0 b1 b2 b3 b4 true 0 a4 = some true)) :
    Calls Tryz.prog 14 #[.agg #[.string a0, .int .i64 a1, .int .i64 a2, .int .i64 a3, .string a4], .agg #[.string b0, .int .i64 b1, .int .i64 b2, .int .i64 b3, .string b4]] w fun e w' => e = .returned (.tuple #[.agg #[.string a0, .int .i64 a1, .int .i64 a2, .int .i64 a3, .string a4], .bool true]) ∧ Below w.heap.size w w' := by
  have hu23 := Tryz.underlying23
  go_enter Tryz.func14, Tryz.ntmps14
  go_wp2_with fail
  go_region_held3 (fun w' => w'.cell? ⟨w.heap.size + 1, 0, none⟩ = some (.string b0) ∧ w'.cell? ⟨w.heap.size + 1, 1, none⟩ = some (.int .i64 b1) ∧ w'.cell? ⟨w.heap.size + 1, 2, none⟩ = some (.int .i64 b2) ∧ w'.cell? ⟨w.heap.size + 1, 3, none⟩ = some (.int .i64 b3) ∧ w'.cell? ⟨w.heap.size + 1, 4, none⟩ = some (.string b4) ∧ w'.cell? ⟨w.heap.size, 4, none⟩ = some (.string a4))
    (first | go_keep | (go_split_ands; refine ⟨?_, ?_, ?_, ?_, ?_, ?_⟩ <;> first | exact pw_cell_below hb1 ‹_› | exact pw_cell_below hb2 ‹_›))
    (first | (go_at_call 38; refine (value_Text.calls _ _ _ _ _ rfl).mono ?_; rintro e w1 ⟨rfl, hb1⟩) | (go_at_call 15; refine (pred_Holds.calls _ _ _ _ _ _ _ _ _ _ hH.out).mono ?_; rintro e w2 ⟨rfl, hb2⟩))
  have bk : ∀ (g : Nat) (o : Obj), g < w.heap.size + 4 → ((((w.alloc (.cells #[.string a0, .int .i64 a1, .int .i64 a2, .int .i64 a3, .string a4] 23)).alloc (.cells #[.string b0, .int .i64 b1, .int .i64 b2, .int .i64 b3, .string b4] 23)).alloc (.cells #[.string (⟨#[]⟩ : ByteArray), .int .i64 0, .int .i64 0, .int .i64 0, .string (⟨#[]⟩ : ByteArray)] 23)).alloc (.cells #[.string (⟨#[]⟩ : ByteArray), .int .i64 0, .int .i64 0, .int .i64 0, .string (⟨#[]⟩ : ByteArray)] 23)).heap[g]? = some o → w2.heap[g]? = some o := by
    intro g o hg h
    have s1 := hb1.size
    simp at s1
    rw [hb2.block g (by omega), hb1.block g (by simp; omega)]
    exact h
  have B0 := bk w.heap.size (.cells #[.string a0, .int .i64 a1, .int .i64 a2, .int .i64 a3, .string a4] 23) (by omega) (pred_Both.up (pred_Both.up (pred_Both.up (pred_Both.top _ _ rfl) _) _) _)
  have B2 := bk (w.heap.size + 1 + 1) (.cells #[.string (⟨#[]⟩ : ByteArray), .int .i64 0, .int .i64 0, .int .i64 0, .string (⟨#[]⟩ : ByteArray)] 23) (by omega) (pred_Both.up (pred_Both.top _ _ (by simp)) _)
  have B3 := bk (w.heap.size + 1 + 1 + 1) (.cells #[.string (⟨#[]⟩ : ByteArray), .int .i64 0, .int .i64 0, .int .i64 0, .string (⟨#[]⟩ : ByteArray)] 23) (by omega) (pred_Both.top _ _ (by simp))
  have q0 := fun i => blk_cell B0 i
  have q2 := fun i => blk_cell B2 i
  have q3 := fun i => blk_cell B3 i
  have f2 := fun i => blk_frozen B2 i
  have s1 := hb1.size
  simp at s1
  have s2 := hb2.size
  have hz2 : w.heap.size ≤ w2.heap.size := by omega
  have hB : Below w.heap.size w w2 := below_then (below_then (by repeat (first | exact Below.refl _ _ | apply below_alloc | apply below_drew1)) (by simp; omega) hb1) (by omega) hb2
  have HB := Aside0.mk hB
  clear bk B0 B2 B3 hb1 hb2 hB s1 s2
  go_wp2
  refine bodyPost_ret (v := .tuple #[.agg #[.string a0, .int .i64 a1, .int .i64 a2, .int .i64 a3, .string a4], .bool true]) (by simp [results, Tryz.results14, go_sem, q2]) rfl ⟨rfl, ?_⟩
  clear q0 q2 q3 f2
  repeat (with_reducible first | exact HB.out | apply below_alloc | apply pw_below_drewN | apply below_drew1 | refine below_set ?_ (by omega))

set_option maxHeartbeats 4000000 in
set_option maxRecDepth 100000 in
theorem pred_Both.s_q_false (a0 : ByteArray) (a1 a2 a3 : Int) (a4 : ByteArray) (b0 : ByteArray) (b1 b2 b3 : Int) (b4 : ByteArray) (w : World) (h1 : decide (b1 < a1) = true) (k1 : (b1 == 1) = false) (k2 : (b1 == 3) = true) (k3 : decide (b4.size < a4.size) = true) (hH : Aside0 (pred_Holds.f b0 b1 b2 b3 b4 true 0 a4 = some false)) :
    Calls Tryz.prog 14 #[.agg #[.string a0, .int .i64 a1, .int .i64 a2, .int .i64 a3, .string a4], .agg #[.string b0, .int .i64 b1, .int .i64 b2, .int .i64 b3, .string b4]] w fun e w' => e = .returned (.tuple #[.agg #[.string (⟨#[]⟩ : ByteArray), .int .i64 0, .int .i64 0, .int .i64 0, .string (⟨#[]⟩ : ByteArray)], .bool false]) ∧ Below w.heap.size w w' := by
  have hu23 := Tryz.underlying23
  go_enter Tryz.func14, Tryz.ntmps14
  go_wp2_with fail
  go_region_held3 (fun w' => w'.cell? ⟨w.heap.size + 1, 0, none⟩ = some (.string b0) ∧ w'.cell? ⟨w.heap.size + 1, 1, none⟩ = some (.int .i64 b1) ∧ w'.cell? ⟨w.heap.size + 1, 2, none⟩ = some (.int .i64 b2) ∧ w'.cell? ⟨w.heap.size + 1, 3, none⟩ = some (.int .i64 b3) ∧ w'.cell? ⟨w.heap.size + 1, 4, none⟩ = some (.string b4) ∧ w'.cell? ⟨w.heap.size, 4, none⟩ = some (.string a4))
    (first | go_keep | (go_split_ands; refine ⟨?_, ?_, ?_, ?_, ?_, ?_⟩ <;> first | exact pw_cell_below hb1 ‹_› | exact pw_cell_below hb2 ‹_›))
    (first | (go_at_call 38; refine (value_Text.calls _ _ _ _ _ rfl).mono ?_; rintro e w1 ⟨rfl, hb1⟩) | (go_at_call 15; refine (pred_Holds.calls _ _ _ _ _ _ _ _ _ _ hH.out).mono ?_; rintro e w2 ⟨rfl, hb2⟩))
  have bk : ∀ (g : Nat) (o : Obj), g < w.heap.size + 4 → ((((w.alloc (.cells #[.string a0, .int .i64 a1, .int .i64 a2, .int .i64 a3, .string a4] 23)).alloc (.cells #[.string b0, .int .i64 b1, .int .i64 b2, .int .i64 b3, .string b4] 23)).alloc (.cells #[.string (⟨#[]⟩ : ByteArray), .int .i64 0, .int .i64 0, .int .i64 0, .string (⟨#[]⟩ : ByteArray)] 23)).alloc (.cells #[.string (⟨#[]⟩ : ByteArray), .int .i64 0, .int .i64 0, .int .i64 0, .string (⟨#[]⟩ : ByteArray)] 23)).heap[g]? = some o → w2.heap[g]? = some o := by
    intro g o hg h
    have s1 := hb1.size
    simp at s1
    rw [hb2.block g (by omega), hb1.block g (by simp; omega)]
    exact h
  have B0 := bk w.heap.size (.cells #[.string a0, .int .i64 a1, .int .i64 a2, .int .i64 a3, .string a4] 23) (by omega) (pred_Both.up (pred_Both.up (pred_Both.up (pred_Both.top _ _ rfl) _) _) _)
  have B2 := bk (w.heap.size + 1 + 1) (.cells #[.string (⟨#[]⟩ : ByteArray), .int .i64 0, .int .i64 0, .int .i64 0, .string (⟨#[]⟩ : ByteArray)] 23) (by omega) (pred_Both.up (pred_Both.top _ _ (by simp)) _)
  have B3 := bk (w.heap.size + 1 + 1 + 1) (.cells #[.string (⟨#[]⟩ : ByteArray), .int .i64 0, .int .i64 0, .int .i64 0, .string (⟨#[]⟩ : ByteArray)] 23) (by omega) (pred_Both.top _ _ (by simp))
  have q0 := fun i => blk_cell B0 i
  have q2 := fun i => blk_cell B2 i
  have q3 := fun i => blk_cell B3 i
  have f2 := fun i => blk_frozen B2 i
  have s1 := hb1.size
  simp at s1
  have s2 := hb2.size
  have hz2 : w.heap.size ≤ w2.heap.size := by omega
  have hB : Below w.heap.size w w2 := below_then (below_then (by repeat (first | exact Below.refl _ _ | apply below_alloc | apply below_drew1)) (by simp; omega) hb1) (by omega) hb2
  have HB := Aside0.mk hB
  clear bk B0 B2 B3 hb1 hb2 hB s1 s2
  go_wp2
  refine bodyPost_ret (v := .tuple #[.agg #[.string (⟨#[]⟩ : ByteArray), .int .i64 0, .int .i64 0, .int .i64 0, .string (⟨#[]⟩ : ByteArray)], .bool false]) (by simp [results, Tryz.results14, go_sem, q2]) rfl ⟨rfl, ?_⟩
  clear q0 q2 q3 f2
  repeat (with_reducible first | exact HB.out | apply below_alloc | apply pw_below_drewN | apply below_drew1 | refine below_set ?_ (by omega))

set_option maxHeartbeats 4000000 in
set_option maxRecDepth 100000 in
theorem pred_Both.s_t_true (a0 : ByteArray) (a1 a2 a3 : Int) (a4 : ByteArray) (b0 : ByteArray) (b1 b2 b3 : Int) (b4 : ByteArray) (w : World) (h1 : decide (b1 < a1) = true) (k1 : (b1 == 1) = false) (k2 : (b1 == 3) = false) (k3 : (b1 == 2) = true) (hH : Aside0 (pred_Holds.f a0 a1 a2 a3 a4 true 0 b4 = some true)) :
    Calls Tryz.prog 14 #[.agg #[.string a0, .int .i64 a1, .int .i64 a2, .int .i64 a3, .string a4], .agg #[.string b0, .int .i64 b1, .int .i64 b2, .int .i64 b3, .string b4]] w fun e w' => e = .returned (.tuple #[.agg #[.string b0, .int .i64 b1, .int .i64 b2, .int .i64 b3, .string b4], .bool true]) ∧ Below w.heap.size w w' := by
  have hu23 := Tryz.underlying23
  go_enter Tryz.func14, Tryz.ntmps14
  go_wp2_with fail
  go_region_held3 (fun w' => w'.cell? ⟨w.heap.size + 1, 0, none⟩ = some (.string a0) ∧ w'.cell? ⟨w.heap.size + 1, 1, none⟩ = some (.int .i64 a1) ∧ w'.cell? ⟨w.heap.size + 1, 2, none⟩ = some (.int .i64 a2) ∧ w'.cell? ⟨w.heap.size + 1, 3, none⟩ = some (.int .i64 a3) ∧ w'.cell? ⟨w.heap.size + 1, 4, none⟩ = some (.string a4) ∧ w'.cell? ⟨w.heap.size, 4, none⟩ = some (.string b4))
    (first | go_keep | (go_split_ands; refine ⟨?_, ?_, ?_, ?_, ?_, ?_⟩ <;> first | exact pw_cell_below hb1 ‹_› | exact pw_cell_below hb2 ‹_›))
    (first | (go_at_call 38; refine (value_Text.calls _ _ _ _ _ rfl).mono ?_; rintro e w1 ⟨rfl, hb1⟩) | (go_at_call 15; refine (pred_Holds.calls _ _ _ _ _ _ _ _ _ _ hH.out).mono ?_; rintro e w2 ⟨rfl, hb2⟩))
  have bk : ∀ (g : Nat) (o : Obj), g < w.heap.size + 4 → ((((w.alloc (.cells #[.string b0, .int .i64 b1, .int .i64 b2, .int .i64 b3, .string b4] 23)).alloc (.cells #[.string a0, .int .i64 a1, .int .i64 a2, .int .i64 a3, .string a4] 23)).alloc (.cells #[.string (⟨#[]⟩ : ByteArray), .int .i64 0, .int .i64 0, .int .i64 0, .string (⟨#[]⟩ : ByteArray)] 23)).alloc (.cells #[.string (⟨#[]⟩ : ByteArray), .int .i64 0, .int .i64 0, .int .i64 0, .string (⟨#[]⟩ : ByteArray)] 23)).heap[g]? = some o → w2.heap[g]? = some o := by
    intro g o hg h
    have s1 := hb1.size
    simp at s1
    rw [hb2.block g (by omega), hb1.block g (by simp; omega)]
    exact h
  have B0 := bk w.heap.size (.cells #[.string b0, .int .i64 b1, .int .i64 b2, .int .i64 b3, .string b4] 23) (by omega) (pred_Both.up (pred_Both.up (pred_Both.up (pred_Both.top _ _ rfl) _) _) _)
  have B2 := bk (w.heap.size + 1 + 1) (.cells #[.string (⟨#[]⟩ : ByteArray), .int .i64 0, .int .i64 0, .int .i64 0, .string (⟨#[]⟩ : ByteArray)] 23) (by omega) (pred_Both.up (pred_Both.top _ _ (by simp)) _)
  have B3 := bk (w.heap.size + 1 + 1 + 1) (.cells #[.string (⟨#[]⟩ : ByteArray), .int .i64 0, .int .i64 0, .int .i64 0, .string (⟨#[]⟩ : ByteArray)] 23) (by omega) (pred_Both.top _ _ (by simp))
  have q0 := fun i => blk_cell B0 i
  have q2 := fun i => blk_cell B2 i
  have q3 := fun i => blk_cell B3 i
  have f2 := fun i => blk_frozen B2 i
  have s1 := hb1.size
  simp at s1
  have s2 := hb2.size
  have hz2 : w.heap.size ≤ w2.heap.size := by omega
  have hB : Below w.heap.size w w2 := below_then (below_then (by repeat (first | exact Below.refl _ _ | apply below_alloc | apply below_drew1)) (by simp; omega) hb1) (by omega) hb2
  have HB := Aside0.mk hB
  clear bk B0 B2 B3 hb1 hb2 hB s1 s2
  go_wp2
  refine bodyPost_ret (v := .tuple #[.agg #[.string b0, .int .i64 b1, .int .i64 b2, .int .i64 b3, .string b4], .bool true]) (by simp [results, Tryz.results14, go_sem, q2]) rfl ⟨rfl, ?_⟩
  clear q0 q2 q3 f2
  repeat (with_reducible first | exact HB.out | apply below_alloc | apply pw_below_drewN | apply below_drew1 | refine below_set ?_ (by omega))

set_option maxHeartbeats 4000000 in
set_option maxRecDepth 100000 in
theorem pred_Both.s_t_false (a0 : ByteArray) (a1 a2 a3 : Int) (a4 : ByteArray) (b0 : ByteArray) (b1 b2 b3 : Int) (b4 : ByteArray) (w : World) (h1 : decide (b1 < a1) = true) (k1 : (b1 == 1) = false) (k2 : (b1 == 3) = false) (k3 : (b1 == 2) = true) (hH : Aside0 (pred_Holds.f a0 a1 a2 a3 a4 true 0 b4 = some false)) :
    Calls Tryz.prog 14 #[.agg #[.string a0, .int .i64 a1, .int .i64 a2, .int .i64 a3, .string a4], .agg #[.string b0, .int .i64 b1, .int .i64 b2, .int .i64 b3, .string b4]] w fun e w' => e = .returned (.tuple #[.agg #[.string (⟨#[]⟩ : ByteArray), .int .i64 0, .int .i64 0, .int .i64 0, .string (⟨#[]⟩ : ByteArray)], .bool false]) ∧ Below w.heap.size w w' := by
  have hu23 := Tryz.underlying23
  go_enter Tryz.func14, Tryz.ntmps14
  go_wp2_with fail
  go_region_held3 (fun w' => w'.cell? ⟨w.heap.size + 1, 0, none⟩ = some (.string a0) ∧ w'.cell? ⟨w.heap.size + 1, 1, none⟩ = some (.int .i64 a1) ∧ w'.cell? ⟨w.heap.size + 1, 2, none⟩ = some (.int .i64 a2) ∧ w'.cell? ⟨w.heap.size + 1, 3, none⟩ = some (.int .i64 a3) ∧ w'.cell? ⟨w.heap.size + 1, 4, none⟩ = some (.string a4) ∧ w'.cell? ⟨w.heap.size, 4, none⟩ = some (.string b4))
    (first | go_keep | (go_split_ands; refine ⟨?_, ?_, ?_, ?_, ?_, ?_⟩ <;> first | exact pw_cell_below hb1 ‹_› | exact pw_cell_below hb2 ‹_›))
    (first | (go_at_call 38; refine (value_Text.calls _ _ _ _ _ rfl).mono ?_; rintro e w1 ⟨rfl, hb1⟩) | (go_at_call 15; refine (pred_Holds.calls _ _ _ _ _ _ _ _ _ _ hH.out).mono ?_; rintro e w2 ⟨rfl, hb2⟩))
  have bk : ∀ (g : Nat) (o : Obj), g < w.heap.size + 4 → ((((w.alloc (.cells #[.string b0, .int .i64 b1, .int .i64 b2, .int .i64 b3, .string b4] 23)).alloc (.cells #[.string a0, .int .i64 a1, .int .i64 a2, .int .i64 a3, .string a4] 23)).alloc (.cells #[.string (⟨#[]⟩ : ByteArray), .int .i64 0, .int .i64 0, .int .i64 0, .string (⟨#[]⟩ : ByteArray)] 23)).alloc (.cells #[.string (⟨#[]⟩ : ByteArray), .int .i64 0, .int .i64 0, .int .i64 0, .string (⟨#[]⟩ : ByteArray)] 23)).heap[g]? = some o → w2.heap[g]? = some o := by
    intro g o hg h
    have s1 := hb1.size
    simp at s1
    rw [hb2.block g (by omega), hb1.block g (by simp; omega)]
    exact h
  have B0 := bk w.heap.size (.cells #[.string b0, .int .i64 b1, .int .i64 b2, .int .i64 b3, .string b4] 23) (by omega) (pred_Both.up (pred_Both.up (pred_Both.up (pred_Both.top _ _ rfl) _) _) _)
  have B2 := bk (w.heap.size + 1 + 1) (.cells #[.string (⟨#[]⟩ : ByteArray), .int .i64 0, .int .i64 0, .int .i64 0, .string (⟨#[]⟩ : ByteArray)] 23) (by omega) (pred_Both.up (pred_Both.top _ _ (by simp)) _)
  have B3 := bk (w.heap.size + 1 + 1 + 1) (.cells #[.string (⟨#[]⟩ : ByteArray), .int .i64 0, .int .i64 0, .int .i64 0, .string (⟨#[]⟩ : ByteArray)] 23) (by omega) (pred_Both.top _ _ (by simp))
  have q0 := fun i => blk_cell B0 i
  have q2 := fun i => blk_cell B2 i
  have q3 := fun i => blk_cell B3 i
  have f2 := fun i => blk_frozen B2 i
  have s1 := hb1.size
  simp at s1
  have s2 := hb2.size
  have hz2 : w.heap.size ≤ w2.heap.size := by omega
  have hB : Below w.heap.size w w2 := below_then (below_then (by repeat (first | exact Below.refl _ _ | apply below_alloc | apply below_drew1)) (by simp; omega) hb1) (by omega) hb2
  have HB := Aside0.mk hB
  clear bk B0 B2 B3 hb1 hb2 hB s1 s2
  go_wp2
  refine bodyPost_ret (v := .tuple #[.agg #[.string (⟨#[]⟩ : ByteArray), .int .i64 0, .int .i64 0, .int .i64 0, .string (⟨#[]⟩ : ByteArray)], .bool false]) (by simp [results, Tryz.results14, go_sem, q2]) rfl ⟨rfl, ?_⟩
  clear q0 q2 q3 f2
  repeat (with_reducible first | exact HB.out | apply below_alloc | apply pw_below_drewN | apply below_drew1 | refine below_set ?_ (by omega))

theorem pred_Both.calls (a0_0 : ByteArray) (a0_1 : Int) (a0_2 : Int) (a0_3 : Int) (a0_4 : ByteArray) (a1_0 : ByteArray) (a1_1 : Int) (a1_2 : Int) (a1_3 : Int) (a1_4 : ByteArray) (r1 : ByteArray) (r2 : Int) (r3 : Int) (r4 : Int) (r5 : ByteArray) (r6 : Bool) (w : World) (h : pred_Both.f a0_0 a0_1 a0_2 a0_3 a0_4 a1_0 a1_1 a1_2 a1_3 a1_4 = some (r1, r2, r3, r4, r5, r6)) :
    Calls Tryz.prog 14 #[.agg #[.string a0_0, .int .i64 a0_1, .int .i64 a0_2, .int .i64 a0_3, .string a0_4], .agg #[.string a1_0, .int .i64 a1_1, .int .i64 a1_2, .int .i64 a1_3, .string a1_4]] w fun e w' => e = .returned (.tuple #[.agg #[.string r1, .int .i64 r2, .int .i64 r3, .int .i64 r4, .string r5], .bool r6]) ∧ Below w.heap.size w w' := by
  revert h
  generalize a0_0 = a0, a0_1 = a1, a0_2 = a2, a0_3 = a3, a0_4 = a4, a1_0 = b0, a1_1 = b1, a1_2 = b2, a1_3 = b3, a1_4 = b4
  intro h
  simp only [pred_Both.f, pred_Both.core, pred_Both.fin, pred_Both.none_] at h
  by_cases s : b1 < a1
  · rw [if_pos s] at h
    by_cases k1 : b1 = 1
    · rw [if_pos k1] at h
      by_cases k2 : a1 = 1
      · rw [if_pos k2] at h
        by_cases m1 : b2 < a2
        · by_cases m2 : a3 < b3
          · simp only [mx, mn, if_pos m1, if_pos m2] at h
            by_cases k3 : a2 > a3
            · rw [if_pos k3] at h; simp only [Option.some.injEq, Prod.mk.injEq] at h; obtain ⟨rfl, rfl, rfl, rfl, rfl, rfl⟩ := h; exact pred_Both.s_r1_3 a0 a1 a2 a3 a4 b0 b1 b2 b3 b4 w (by simpa using s) (by simpa using k1) (by simpa using k2) m1 m2 (by simpa using k3)
            · rw [if_neg k3] at h; simp only [Option.some.injEq, Prod.mk.injEq] at h; obtain ⟨rfl, rfl, rfl, rfl, rfl, rfl⟩ := h; exact pred_Both.s_r2_3 a0 a1 a2 a3 a4 b0 b1 b2 b3 b4 w (by simpa using s) (by simpa using k1) (by simpa using k2) m1 m2 (by simpa using k3)
          · simp only [mx, mn, if_pos m1, if_neg m2] at h
            by_cases k3 : a2 > b3
            · rw [if_pos k3] at h; simp only [Option.some.injEq, Prod.mk.injEq] at h; obtain ⟨rfl, rfl, rfl, rfl, rfl, rfl⟩ := h; exact pred_Both.s_r1_2 a0 a1 a2 a3 a4 b0 b1 b2 b3 b4 w (by simpa using s) (by simpa using k1) (by simpa using k2) m1 m2 (by simpa using k3)
            · rw [if_neg k3] at h; simp only [Option.some.injEq, Prod.mk.injEq] at h; obtain ⟨rfl, rfl, rfl, rfl, rfl, rfl⟩ := h; exact pred_Both.s_r2_2 a0 a1 a2 a3 a4 b0 b1 b2 b3 b4 w (by simpa using s) (by simpa using k1) (by simpa using k2) m1 m2 (by simpa using k3)
        · by_cases m2 : a3 < b3
          · simp only [mx, mn, if_neg m1, if_pos m2] at h
            by_cases k3 : b2 > a3
            · rw [if_pos k3] at h; simp only [Option.some.injEq, Prod.mk.injEq] at h; obtain ⟨rfl, rfl, rfl, rfl, rfl, rfl⟩ := h; exact pred_Both.s_r1_1 a0 a1 a2 a3 a4 b0 b1 b2 b3 b4 w (by simpa using s) (by simpa using k1) (by simpa using k2) m1 m2 (by simpa using k3)
            · rw [if_neg k3] at h; simp only [Option.some.injEq, Prod.mk.injEq] at h; obtain ⟨rfl, rfl, rfl, rfl, rfl, rfl⟩ := h; exact pred_Both.s_r2_1 a0 a1 a2 a3 a4 b0 b1 b2 b3 b4 w (by simpa using s) (by simpa using k1) (by simpa using k2) m1 m2 (by simpa using k3)
          · simp only [mx, mn, if_neg m1, if_neg m2] at h
            by_cases k3 : b2 > b3
            · rw [if_pos k3] at h; simp only [Option.some.injEq, Prod.mk.injEq] at h; obtain ⟨rfl, rfl, rfl, rfl, rfl, rfl⟩ := h; exact pred_Both.s_r1_0 a0 a1 a2 a3 a4 b0 b1 b2 b3 b4 w (by simpa using s) (by simpa using k1) (by simpa using k2) m1 m2 (by simpa using k3)
            · rw [if_neg k3] at h; simp only [Option.some.injEq, Prod.mk.injEq] at h; obtain ⟨rfl, rfl, rfl, rfl, rfl, rfl⟩ := h; exact pred_Both.s_r2_0 a0 a1 a2 a3 a4 b0 b1 b2 b3 b4 w (by simpa using s) (by simpa using k1) (by simpa using k2) m1 m2 (by simpa using k3)
      · rw [if_neg k2] at h; simp only [Option.some.injEq, Prod.mk.injEq] at h; obtain ⟨rfl, rfl, rfl, rfl, rfl, rfl⟩ := h; exact pred_Both.s_r0 a0 a1 a2 a3 a4 b0 b1 b2 b3 b4 w (by simpa using s) (by simpa using k1) (by simpa using k2)
    · rw [if_neg k1] at h
      by_cases k2 : b1 = 3
      · rw [if_pos k2] at h
        by_cases k3 : b4.size < a4.size
        · rw [if_pos k3] at h
          cases hH : pred_Holds.f b0 b1 b2 b3 b4 true 0 a4 with
          | none => rw [hH] at h; exact absurd h (by simp)
          | some r =>
            rw [hH] at h
            cases r with
            | true => simp only [Option.bind_some, if_true, Bool.false_eq_true, if_false] at h; simp only [Option.some.injEq, Prod.mk.injEq] at h; obtain ⟨rfl, rfl, rfl, rfl, rfl, rfl⟩ := h; exact pred_Both.s_q_true a0 a1 a2 a3 a4 b0 b1 b2 b3 b4 w (by simpa using s) (by simpa using k1) (by simpa using k2) (by simpa using k3) ⟨hH⟩
            | false => simp only [Option.bind_some, if_true, Bool.false_eq_true, if_false] at h; simp only [Option.some.injEq, Prod.mk.injEq] at h; obtain ⟨rfl, rfl, rfl, rfl, rfl, rfl⟩ := h; exact pred_Both.s_q_false a0 a1 a2 a3 a4 b0 b1 b2 b3 b4 w (by simpa using s) (by simpa using k1) (by simpa using k2) (by simpa using k3) ⟨hH⟩
        · rw [if_neg k3] at h
          cases hH : pred_Holds.f a0 a1 a2 a3 a4 true 0 b4 with
          | none => rw [hH] at h; exact absurd h (by simp)
          | some r =>
            rw [hH] at h
            cases r with
            | true => simp only [Option.bind_some, if_true, Bool.false_eq_true, if_false] at h; simp only [Option.some.injEq, Prod.mk.injEq] at h; obtain ⟨rfl, rfl, rfl, rfl, rfl, rfl⟩ := h; exact pred_Both.s_p_true a0 a1 a2 a3 a4 b0 b1 b2 b3 b4 w (by simpa using s) (by simpa using k1) (by simpa using k2) (by simpa using k3) ⟨hH⟩
            | false => simp only [Option.bind_some, if_true, Bool.false_eq_true, if_false] at h; simp only [Option.some.injEq, Prod.mk.injEq] at h; obtain ⟨rfl, rfl, rfl, rfl, rfl, rfl⟩ := h; exact pred_Both.s_p_false a0 a1 a2 a3 a4 b0 b1 b2 b3 b4 w (by simpa using s) (by simpa using k1) (by simpa using k2) (by simpa using k3) ⟨hH⟩
      · rw [if_neg k2] at h
        by_cases k3 : b1 = 2
        · rw [if_pos k3] at h
          cases hH : pred_Holds.f a0 a1 a2 a3 a4 true 0 b4 with
          | none => rw [hH] at h; exact absurd h (by simp)
          | some r =>
            rw [hH] at h
            cases r with
            | true => simp only [Option.bind_some, if_true, Bool.false_eq_true, if_false] at h; simp only [Option.some.injEq, Prod.mk.injEq] at h; obtain ⟨rfl, rfl, rfl, rfl, rfl, rfl⟩ := h; exact pred_Both.s_t_true a0 a1 a2 a3 a4 b0 b1 b2 b3 b4 w (by simpa using s) (by simpa using k1) (by simpa using k2) (by simpa using k3) ⟨hH⟩
            | false => simp only [Option.bind_some, if_true, Bool.false_eq_true, if_false] at h; simp only [Option.some.injEq, Prod.mk.injEq] at h; obtain ⟨rfl, rfl, rfl, rfl, rfl, rfl⟩ := h; exact pred_Both.s_t_false a0 a1 a2 a3 a4 b0 b1 b2 b3 b4 w (by simpa using s) (by simpa using k1) (by simpa using k2) (by simpa using k3) ⟨hH⟩
        · rw [if_neg k3] at h; simp only [Option.some.injEq, Prod.mk.injEq] at h; obtain ⟨rfl, rfl, rfl, rfl, rfl, rfl⟩ := h; exact pred_Both.s_o a0 a1 a2 a3 a4 b0 b1 b2 b3 b4 w (by simpa using s) (by simpa using k1) (by simpa using k2) (by simpa using k3)
  · rw [if_neg (show ¬ a1 > b1 from s)] at h
    by_cases k1 : a1 = 1
    · rw [if_pos k1] at h
      by_cases k2 : b1 = 1
      · rw [if_pos k2] at h
        by_cases m1 : a2 < b2
        · by_cases m2 : b3 < a3
          · simp only [mx, mn, if_pos m1, if_pos m2] at h
            by_cases k3 : b2 > b3
            · rw [if_pos k3] at h; simp only [Option.some.injEq, Prod.mk.injEq] at h; obtain ⟨rfl, rfl, rfl, rfl, rfl, rfl⟩ := h; exact pred_Both.n_r1_3 a0 a1 a2 a3 a4 b0 b1 b2 b3 b4 w (by simpa using s) (by simpa using k1) (by simpa using k2) m1 m2 (by simpa using k3)
            · rw [if_neg k3] at h; simp only [Option.some.injEq, Prod.mk.injEq] at h; obtain ⟨rfl, rfl, rfl, rfl, rfl, rfl⟩ := h; exact pred_Both.n_r2_3 a0 a1 a2 a3 a4 b0 b1 b2 b3 b4 w (by simpa using s) (by simpa using k1) (by simpa using k2) m1 m2 (by simpa using k3)
          · simp only [mx, mn, if_pos m1, if_neg m2] at h
            by_cases k3 : b2 > a3
            · rw [if_pos k3] at h; simp only [Option.some.injEq, Prod.mk.injEq] at h; obtain ⟨rfl, rfl, rfl, rfl, rfl, rfl⟩ := h; exact pred_Both.n_r1_2 a0 a1 a2 a3 a4 b0 b1 b2 b3 b4 w (by simpa using s) (by simpa using k1) (by simpa using k2) m1 m2 (by simpa using k3)
            · rw [if_neg k3] at h; simp only [Option.some.injEq, Prod.mk.injEq] at h; obtain ⟨rfl, rfl, rfl, rfl, rfl, rfl⟩ := h; exact pred_Both.n_r2_2 a0 a1 a2 a3 a4 b0 b1 b2 b3 b4 w (by simpa using s) (by simpa using k1) (by simpa using k2) m1 m2 (by simpa using k3)
        · by_cases m2 : b3 < a3
          · simp only [mx, mn, if_neg m1, if_pos m2] at h
            by_cases k3 : a2 > b3
            · rw [if_pos k3] at h; simp only [Option.some.injEq, Prod.mk.injEq] at h; obtain ⟨rfl, rfl, rfl, rfl, rfl, rfl⟩ := h; exact pred_Both.n_r1_1 a0 a1 a2 a3 a4 b0 b1 b2 b3 b4 w (by simpa using s) (by simpa using k1) (by simpa using k2) m1 m2 (by simpa using k3)
            · rw [if_neg k3] at h; simp only [Option.some.injEq, Prod.mk.injEq] at h; obtain ⟨rfl, rfl, rfl, rfl, rfl, rfl⟩ := h; exact pred_Both.n_r2_1 a0 a1 a2 a3 a4 b0 b1 b2 b3 b4 w (by simpa using s) (by simpa using k1) (by simpa using k2) m1 m2 (by simpa using k3)
          · simp only [mx, mn, if_neg m1, if_neg m2] at h
            by_cases k3 : a2 > a3
            · rw [if_pos k3] at h; simp only [Option.some.injEq, Prod.mk.injEq] at h; obtain ⟨rfl, rfl, rfl, rfl, rfl, rfl⟩ := h; exact pred_Both.n_r1_0 a0 a1 a2 a3 a4 b0 b1 b2 b3 b4 w (by simpa using s) (by simpa using k1) (by simpa using k2) m1 m2 (by simpa using k3)
            · rw [if_neg k3] at h; simp only [Option.some.injEq, Prod.mk.injEq] at h; obtain ⟨rfl, rfl, rfl, rfl, rfl, rfl⟩ := h; exact pred_Both.n_r2_0 a0 a1 a2 a3 a4 b0 b1 b2 b3 b4 w (by simpa using s) (by simpa using k1) (by simpa using k2) m1 m2 (by simpa using k3)
      · rw [if_neg k2] at h; simp only [Option.some.injEq, Prod.mk.injEq] at h; obtain ⟨rfl, rfl, rfl, rfl, rfl, rfl⟩ := h; exact pred_Both.n_r0 a0 a1 a2 a3 a4 b0 b1 b2 b3 b4 w (by simpa using s) (by simpa using k1) (by simpa using k2)
    · rw [if_neg k1] at h
      by_cases k2 : a1 = 3
      · rw [if_pos k2] at h
        by_cases k3 : a4.size < b4.size
        · rw [if_pos k3] at h
          cases hH : pred_Holds.f a0 a1 a2 a3 a4 true 0 b4 with
          | none => rw [hH] at h; exact absurd h (by simp)
          | some r =>
            rw [hH] at h
            cases r with
            | true => simp only [Option.bind_some, if_true, Bool.false_eq_true, if_false] at h; simp only [Option.some.injEq, Prod.mk.injEq] at h; obtain ⟨rfl, rfl, rfl, rfl, rfl, rfl⟩ := h; exact pred_Both.n_q_true a0 a1 a2 a3 a4 b0 b1 b2 b3 b4 w (by simpa using s) (by simpa using k1) (by simpa using k2) (by simpa using k3) ⟨hH⟩
            | false => simp only [Option.bind_some, if_true, Bool.false_eq_true, if_false] at h; simp only [Option.some.injEq, Prod.mk.injEq] at h; obtain ⟨rfl, rfl, rfl, rfl, rfl, rfl⟩ := h; exact pred_Both.n_q_false a0 a1 a2 a3 a4 b0 b1 b2 b3 b4 w (by simpa using s) (by simpa using k1) (by simpa using k2) (by simpa using k3) ⟨hH⟩
        · rw [if_neg k3] at h
          cases hH : pred_Holds.f b0 b1 b2 b3 b4 true 0 a4 with
          | none => rw [hH] at h; exact absurd h (by simp)
          | some r =>
            rw [hH] at h
            cases r with
            | true => simp only [Option.bind_some, if_true, Bool.false_eq_true, if_false] at h; simp only [Option.some.injEq, Prod.mk.injEq] at h; obtain ⟨rfl, rfl, rfl, rfl, rfl, rfl⟩ := h; exact pred_Both.n_p_true a0 a1 a2 a3 a4 b0 b1 b2 b3 b4 w (by simpa using s) (by simpa using k1) (by simpa using k2) (by simpa using k3) ⟨hH⟩
            | false => simp only [Option.bind_some, if_true, Bool.false_eq_true, if_false] at h; simp only [Option.some.injEq, Prod.mk.injEq] at h; obtain ⟨rfl, rfl, rfl, rfl, rfl, rfl⟩ := h; exact pred_Both.n_p_false a0 a1 a2 a3 a4 b0 b1 b2 b3 b4 w (by simpa using s) (by simpa using k1) (by simpa using k2) (by simpa using k3) ⟨hH⟩
      · rw [if_neg k2] at h
        by_cases k3 : a1 = 2
        · rw [if_pos k3] at h
          cases hH : pred_Holds.f b0 b1 b2 b3 b4 true 0 a4 with
          | none => rw [hH] at h; exact absurd h (by simp)
          | some r =>
            rw [hH] at h
            cases r with
            | true => simp only [Option.bind_some, if_true, Bool.false_eq_true, if_false] at h; simp only [Option.some.injEq, Prod.mk.injEq] at h; obtain ⟨rfl, rfl, rfl, rfl, rfl, rfl⟩ := h; exact pred_Both.n_t_true a0 a1 a2 a3 a4 b0 b1 b2 b3 b4 w (by simpa using s) (by simpa using k1) (by simpa using k2) (by simpa using k3) ⟨hH⟩
            | false => simp only [Option.bind_some, if_true, Bool.false_eq_true, if_false] at h; simp only [Option.some.injEq, Prod.mk.injEq] at h; obtain ⟨rfl, rfl, rfl, rfl, rfl, rfl⟩ := h; exact pred_Both.n_t_false a0 a1 a2 a3 a4 b0 b1 b2 b3 b4 w (by simpa using s) (by simpa using k1) (by simpa using k2) (by simpa using k3) ⟨hH⟩
        · rw [if_neg k3] at h; simp only [Option.some.injEq, Prod.mk.injEq] at h; obtain ⟨rfl, rfl, rfl, rfl, rfl, rfl⟩ := h; exact pred_Both.n_o a0 a1 a2 a3 a4 b0 b1 b2 b3 b4 w (by simpa using s) (by simpa using k1) (by simpa using k2) (by simpa using k3)

end Go.Proofs.YtfabnapjbgamaaaGreatDoor.MPred
