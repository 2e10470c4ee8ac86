import Derived.Test.YtfabnapjbgamaaaGreatDoorProg
import Derived.Tactics
import Derived.Tactics2
import Derived.Defers
import Derived.Laws.Pointers
import Derived.Laws.LoneSync
import Derived.RegionTactic
import Derived.RegionCalls
import Derived.ChangeAlike
import Derived.WalkKit
import Derived.WalkSpells
import Derived.Deep.MidRow
import Derived.Below
import Derived.Test.YtfabnapjbgamaaaGreatDoorVaD
import Derived.Test.YtfabnapjbgamaaaGreatDoorVaI
import Derived.Lib.SmallJoins
import Derived.Lib.AppendIntMem
import Derived.Laws.Concat
import Derived.Test.YtfabnapjbgamaaaGreatDoorWWords
namespace Go.Proofs.YtfabnapjbgamaaaGreatDoor.Val
open Go.Proofs.YtfabnapjbgamaaaGreatDoorW.PrintLast Go.RowKit Go.Proofs.YtfabnapjbgamaaaGreatDoorW.PrintWords
set_option linter.unusedVariables false
set_option linter.unusedSimpArgs false
abbrev Tab (w : World) : Prop := Go.Lib.TabIs Tryz.prog w "internal/strconv.uint64pow10" .u64 Go.Lib.pow10Tab
theorem gtab : Tryz.prog.globalNamed "internal/strconv.uint64pow10" = some 2 := by kernel_rfl
theorem Tab.below {w w1 : World} (h : Tab w) (hb : Below w.heap.size w w1) : Tab w1 := Go.Joins.tab_stays gtab h hb (Nat.le_refl _)
def quote (s : ByteArray) : ByteArray := (⟨#[34]⟩ : ByteArray) ++ (⟨(esc s.data.toList).toArray⟩ : ByteArray) ++ (⟨#[34]⟩ : ByteArray)
def itoa (n : Int) : ByteArray := ⟨(Go.Lib.itoa n).toArray⟩
set_option maxRecDepth 1000000 in
set_option maxHeartbeats 1600000 in
theorem Say_int (n : Int) (s : ByteArray) (h0 : -9223372036854775808 ≤ n) (h1 : n ≤ 9223372036854775807) (w : World) (ht : Tab w) :
    Calls Tryz.prog 49 #[.agg #[.bool false, .int .i64 n, .string s]] w fun e w' => e = .returned (.string (itoa n)) ∧ Below w.heap.size w w' := by
  have hu39 := Tryz.underlying39
  have HT := Aside0.mk ht
  have H0 := Aside0.mk h0
  have H1 := Aside0.mk h1
  clear ht h0 h1
  go_enter Tryz.func49, Tryz.ntmps49
  go_wp2_with (go_at_call 48; (with_reducible refine (Tryz.strconv_Itoa n H0.out H1.out _ ?ht).mono ?_); (case ht => exact HT.out.below ((Below.refl _ _).alloc (Nat.le_refl _) _)); rintro e w1 ⟨rfl, hw1⟩)
  go_ret
  obtain ⟨k, os, rfl⟩ := hw1
  exact ⟨rfl, ((Below.refl _ _).alloc (Nat.le_refl _) _).trans (Go.Lib.below_grow _ _ (by simp) k os)⟩
/-- The table stands on. -/
theorem tb {w W : World} (h : Aside0 (Tab w)) (hb : Below w.heap.size w W) : Aside0 (Tab W) := ⟨h.out.below hb⟩
set_option maxRecDepth 1000000 in
set_option maxHeartbeats 1600000 in
theorem Say_text (n : Int) (s : ByteArray) (hs : s.size ≤ 15) (w : World) :
    Calls Tryz.prog 49 #[.agg #[.bool true, .int .i64 n, .string s]] w fun e w' => e = .returned (.string (quote s)) ∧ Below w.heap.size w w' := by
  have hu39 := Tryz.underlying39
  have hel : (esc s.data.toList).length ≤ 30 := by rw [esc_len]; have h1 := cnt_le s.data.toList; have h2 : s.data.toList.length = s.size := rfl; omega
  have hel1 : ¬ (9223372036854775807 < 1 + (esc s.data.toList).length) := by omega
  have hel2 : ¬ (9223372036854775807 < 1 + (esc s.data.toList).length + 1) := by omega
  go_enter Tryz.func49, Tryz.ntmps49
  go_upto_region 3 with (fail)
  obtain ⟨W, hW⟩ : ∃ W, W = w.alloc (.cells #[.bool true, .int .i64 n, .string s] 39) := ⟨_, rfl⟩
  rw [← hW]
  have hb0 : Below w.heap.size w W := by rw [hW]; exact (Below.refl _ _).alloc (Nat.le_refl _) _
  have hnew : W.heap[w.heap.size]? = some (.cells #[.bool true, .int .i64 n, .string s] 39 (0, 0)) := by rw [hW]; exact heap_alloc_last w _
  clear hW
  have hS : ∀ w', Below W.heap.size W w' → w'.cell? ⟨w.heap.size, 2, none⟩ = some (.string s) ∧ True := fun w' hw => ⟨(cell_blk ((hw.block _ (lt_blk hnew)).trans hnew) 2).trans rfl, trivial⟩
  refine start_ (n := 8) (S := fun w' => w'.cell? ⟨w.heap.size, 2, none⟩ = some (.string s) ∧ True) (ds := [4]) #[false, false, false, false, false, false, false, false] (by kernel_rfl) rfl rfl (hS _ (Below.refl _ _).drew) (fun hHeld => ?_)
  have hW0 : Below W.heap.size W W.drew := (Below.refl _ _).drew
  generalize W.drew = W0 at hW0 hHeld ⊢
  refine pure_ (i := 2) (N := (some 11)) (v := ?_) (a' := ?_) #[false, false, true, false, false, false, false, false] rfl rfl (by kernel_rfl) (fun _ _ _ h => h) (Or.inl ⟨by rfl, ?_⟩) ?_ ?_
  rotate_left
  · intro w'
    go_simp
    with_reducible rfl
  rotate_left
  · simp only [Act.put, List.setIfInBounds_toArray, List.set_cons_zero, List.set_cons_succ, i64_w, i32_w]
    rfl
  refine take_ (i := 3) (N := (some 12)) (v := ?_) (a' := ?_) #[false, false, true, true, false, false, false, false] rfl rfl (by kernel_rfl) (fun _ _ _ h => h) (Or.inl ⟨by rfl, ?_⟩) hHeld ?_ ?_
  rotate_left
  · rintro w' ⟨s0, s1⟩
    go_simp
    with_reducible rfl
  rotate_left
  · simp only [Act.put, List.setIfInBounds_toArray, List.set_cons_zero, List.set_cons_succ, i64_w, i32_w]
    rfl
  refine one_ (i := 0) (N := (some 9)) #[true, false, true, true, false, false, false, false] rfl rfl (by kernel_rfl) (by decide) (fun K hK => ?_)
  refine value_ (w1 := W0.alloc (.cells four.toArray 9)) (v := .slice (some ⟨W0.heap.size, 0, none⟩) 4 4) (by rfl) rfl (by go_simp) ?_
  have hW1 : Below W.heap.size W (W0.alloc (.cells four.toArray 9)) := hW0.alloc hW0.size _
  refine hK.out _ _ (hS _ hW1) (fun hHeld => ?_)
  clear hK K
  refine norm_ (a' := ?_) ?_ ?_
  rotate_left
  · show Act.put _ (some 9) _ = _
    simp only [Act.put, List.setIfInBounds_toArray, List.set_cons_zero, List.set_cons_succ, i64_w, i32_w]
    rfl
  refine one_ (i := 1) (N := (some 10)) #[true, true, true, true, false, false, false, false] rfl rfl (by kernel_rfl) (by decide) (fun K hK => ?_)
  refine goes_ Tryz.func61 (by kernel_rfl) rfl #[.slice (some ⟨W0.heap.size, 0, none⟩) 4 4] (by rfl) rfl rfl (by (try simp only [List.map_toArray, List.map_cons, List.map_nil]); first | done | rfl) ?_
  refine (New_calls W0.heap.size _ (heap_alloc_last W0 _)).mono ?_
  rintro e W2 ⟨g, rfl, hNR, hg, hbc⟩
  refine ⟨_, rfl, ?_⟩
  have hW2 : Below W.heap.size W W2 := hW1.trans (hbc.mono hW1.size)
  refine hK.out _ _ (hS _ hW2) (fun hHeld => ?_)
  clear hK K
  refine norm_ (a' := ?_) ?_ ?_
  rotate_left
  · show Act.put _ (some 10) _ = _
    simp only [Act.put, List.setIfInBounds_toArray, List.set_cons_zero, List.set_cons_succ, i64_w, i32_w]
    rfl
  refine last_ (i := 4) (N := (some 13)) #[true, true, true, true, true, false, false, false] rfl rfl (by kernel_rfl) (by decide) (fun K hK => ?_)
  refine goes_ Tryz.func62 (by kernel_rfl) rfl #[.pointer (some ⟨g, 0, none⟩), .string s] (by rfl) rfl rfl (by (try simp only [List.map_toArray, List.map_cons, List.map_nil]); first | done | rfl) ?_
  refine (Replace_calls g s W2 hs hNR).mono ?_
  rintro e W3 ⟨rfl, hgr⟩
  refine ⟨_, rfl, ?_⟩
  refine hK.out _ _ ?_
  clear hK K
  refine norm_ (a' := ?_) ?_ ?_
  rotate_left
  · show Act.put _ (some 13) _ = _
    simp only [Act.put, List.setIfInBounds_toArray, List.set_cons_zero, List.set_cons_succ, i64_w, i32_w]
    rfl
  refine pure_ (i := 5) (N := (some 14)) (v := ?_) (a' := ?_) #[true, true, true, true, true, true, false, false] rfl rfl (by kernel_rfl) (fun _ _ _ h => h) (Or.inl ⟨by rfl, ?_⟩) ?_ ?_
  rotate_left
  · intro w'
    go_simp
    with_reducible rfl
  rotate_left
  · simp only [Act.put, List.setIfInBounds_toArray, List.set_cons_zero, List.set_cons_succ, i64_w, i32_w]
    rfl
  refine pure_ (i := 6) (N := (some 15)) (v := ?_) (a' := ?_) #[true, true, true, true, true, true, true, false] rfl rfl (by kernel_rfl) (fun _ _ _ h => h) (Or.inl ⟨by rfl, ?_⟩) ?_ ?_
  rotate_left
  · intro w'
    go_simp
    with_reducible rfl
  rotate_left
  · simp only [Act.put, List.setIfInBounds_toArray, List.set_cons_zero, List.set_cons_succ, i64_w, i32_w]
    rfl
  refine pure_ (i := 7) (N := (some 2)) (v := ?_) (a' := ?_) #[true, true, true, true, true, true, true, true] rfl rfl (by kernel_rfl) (fun _ _ _ h => h) (Or.inl ⟨by rfl, ?_⟩) ?_ ?_
  rotate_left
  · intro w'
    go_simp
    with_reducible rfl
  rotate_left
  · simp only [Act.put, List.setIfInBounds_toArray, List.set_cons_zero, List.set_cons_succ, i64_w, i32_w]
    rfl
  refine done_ (by kernel_rfl) ?_
  have hW3 : Below W.heap.size W W3 := hW2.grown hgr hW2.size (fun k hk => by injection hk with hk; have := hW1.size; omega)
  go_wp2
  go_ret
  exact ⟨rfl, hb0.trans (hW3.mono hb0.size)⟩
end Go.Proofs.YtfabnapjbgamaaaGreatDoor.Val
