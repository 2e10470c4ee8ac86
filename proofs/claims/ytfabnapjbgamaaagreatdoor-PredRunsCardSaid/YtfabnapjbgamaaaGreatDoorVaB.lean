import Derived.Test.YtfabnapjbgamaaaGreatDoorProg
import Derived.Tactics
import Derived.Tactics2
import Derived.Defers
import Derived.Laws.Pointers
import Derived.Laws.LoneSync
import Derived.RegionTactic
import Derived.RegionCalls
import Derived.ChangeAlike
import Derived.WalkKit
import Derived.WalkSpells
import Derived.Deep.MidRow
import Derived.Below
import Derived.Laws.MakeOwn
import Derived.Laws.BytesString
import Derived.Laws.IdiomStrings
import Derived.Lib.ConvBytes
import Derived.Maps.AppendAt
import Derived.Deep.CutBlock
import Derived.Deep.WholeRow
import Derived.Test.YtfabnapjbgamaaaGreatDoorWWords
namespace Go.Proofs.YtfabnapjbgamaaaGreatDoor.Val
open Go.RowKit Go.Proofs.YtfabnapjbgamaaaGreatDoorW.PrintWords
set_option linter.unusedVariables false
set_option linter.unusedSimpArgs false
theorem lt_blk {w : World} {g : Nat} {o : Obj} (h : w.heap[g]? = some o) : g < w.heap.size := (Array.getElem?_eq_some_iff.1 h).1
theorem cell_blk {w : World} {g : Nat} {C : Array Value} {t : TypeId} {fr : Nat × Nat} (h : w.heap[g]? = some (.cells C t fr)) (j : Nat) : w.cell? ⟨g, j, none⟩ = C[j]? := by
  unfold World.cell?
  simp only [h]
  rfl
theorem frozen_blk {w : World} {g : Nat} {C : Array Value} {t : TypeId} (h : w.heap[g]? = some (.cells C t (0, 0))) (j : Nat) : w.frozen? ⟨g, j, none⟩ = false := by
  unfold World.frozen?
  simp only [h]
  simp
theorem old_alloc {w : World} {o : Obj} {j : Nat} (h : j < w.heap.size) : (w.alloc o).heap[j]? = w.heap[j]? := (Below.heap_alloc w o j h)
theorem set_blk {w : World} {g : Nat} {C : Array Value} {t : TypeId} {fr : Nat × Nat} (h : w.heap[g]? = some (.cells C t fr)) (j : Nat) (v : Value) : (w.setCell ⟨g, j, none⟩ v).heap[g]? = some (.cells (C.setIfInBounds j v) t fr) := by
  unfold World.setCell
  simp only [Array.getElem?_modify, if_true, h, Option.map_some]
  rfl
theorem lt_of_cell {w : World} {p : Addr} {v : Value} (h : w.cell? p = some v) : p.block < w.heap.size := by
  unfold World.cell? at h
  split at h
  · rename_i hh
    exact (Array.getElem?_eq_some_iff.1 hh).1
  · cases h
abbrev S1 (a : UInt8) : Value := .string ⟨#[a]⟩
abbrev S2 (a b : UInt8) : Value := .string ⟨#[a, b]⟩
/-- A byteStringReplacer of the two rules. -/
structure BSR (w : World) (g : Nat) : Prop where
  none_ : ∀ i, i < 256 → i ≠ 34 → i ≠ 92 → w.cell? ⟨g, i, none⟩ = some (.slice none 0 0)
  at34 : ∃ b c, w.cell? ⟨g, 34, none⟩ = some (.slice (some ⟨b, 0, none⟩) 2 c) ∧ w.cell? ⟨b, 0, none⟩ = some (.int .u8 92) ∧ w.cell? ⟨b, 1, none⟩ = some (.int .u8 34)
  at92 : ∃ b c, w.cell? ⟨g, 92, none⟩ = some (.slice (some ⟨b, 0, none⟩) 2 c) ∧ w.cell? ⟨b, 0, none⟩ = some (.int .u8 92) ∧ w.cell? ⟨b, 1, none⟩ = some (.int .u8 92)
  row : ∃ A c, w.cell? ⟨g, 256, none⟩ = some (.slice A 2 c)
def Z256 : Array Value := Array.replicate 256 (.slice none 0 0)
def Z257 (v : Value) : Array Value := Z256.push v
theorem zero175 (A : Option Addr) (l c : Nat) (w : World) : (Instr.build 175 #[(1, .slice A l c)]).run Tryz.prog w = .ok (.agg (Z257 (.slice A l c))) w := by kernel_rfl
theorem alloc175 (h : Bool) (w : World) : (Instr.alloc 175 h undef).run Tryz.prog w = .ok (.pointer (some ⟨w.heap.size, 0, none⟩)) (w.alloc (.cells (Z257 (.slice none 0 0)) 175)) := by cases h <;> kernel_rfl
theorem make56 (w : World) : (Instr.makeSlice 56 (.int .i64 0) (.int .i64 2)).run Tryz.prog w = .ok (.slice (some ⟨w.heap.size, 0, none⟩) 0 2) (w.alloc (.cells #[.string ⟨#[]⟩, .string ⟨#[]⟩] 9)) := by kernel_rfl
theorem info175 : (Tryz.prog.info? 175).map (·.size) = some 257 := by kernel_rfl
theorem zc175 : Tryz.zeroCells175 = Array.replicate 257 (.slice none 0 0) := by kernel_rfl
noncomputable def L175 (v : Value) : List Value := Tryz.zeroCells175.toList.set 256 v
theorem L175_len (v : Value) : (L175 v).length = 257 := by unfold L175; rw [zc175, List.length_set, Array.toList_replicate, List.length_replicate]
theorem L175_get (v : Value) (j : Nat) (h : j < 256) : (L175 v).toArray[j]? = some (.slice none 0 0) := by
  unfold L175
  rw [zc175, List.getElem?_toArray, List.getElem?_set_ne (by omega), Array.toList_replicate, List.getElem?_replicate, if_pos (by omega)]
theorem L175_last (v : Value) : (L175 v).toArray[256]? = some v := by
  unfold L175
  rw [zc175, List.getElem?_toArray, List.getElem?_set_self (by rw [Array.toList_replicate, List.length_replicate]; omega)]
theorem L175_one (A : Option Addr) (l c : Nat) : ((L175 (.slice A l c)).toArray).all (·.oneCell') = true := by
  unfold L175
  rw [zc175, Array.all_eq_true_iff_forall_mem]
  intro x hx
  rw [List.mem_toArray] at hx
  rcases List.mem_or_eq_of_mem_set hx with h | h
  · rw [Array.toList_replicate, List.mem_replicate] at h
    rw [h.2]
    rfl
  · rw [h]
    rfl
theorem store175 (w : World) (A : Option Addr) (l c : Nat) (o : Obj) : (storeCells ⟨w.heap.size + 1, 0, none⟩ (L175 (.slice A l c)) 0).run Tryz.prog ((w.alloc o).alloc (.cells Tryz.zeroCells175 175)) = .ok () ((w.alloc o).alloc (.cells (L175 (.slice A l c)).toArray 175)) := by
  have h := run_storeCells_new (P := Tryz.prog) (w.alloc o) 175 Tryz.zeroCells175 (L175 (.slice A l c)).toArray (by rw [info175, List.size_toArray, L175_len]) (by rw [zc175, Array.size_replicate, List.size_toArray, L175_len]) (L175_one A l c)
  rw [show (w.alloc o).heap.size = w.heap.size + 1 from by simp] at h
  exact h
theorem info9 : (Tryz.prog.info? 9).map (fun i => (i.zero, i.size, i.bytes)) = some (some (.string ⟨#[]⟩), 1, 16) := by kernel_rfl
theorem run_app9 {W : World} {base k N : Nat} {v : Value} {xs : List Value} {s : ByteArray} (HO : W.ownsRow base 9 1 v k xs) (hN : W.heap[N]? = some (.cells #[.string s] 9 (0, 0))) (hbase : base ≤ W.heap.size) (hk : k ≤ 5) :
    ∃ v1 w1, (Builtin.append_ #[56, 56] 56 #[v, .slice (some ⟨N, 0, none⟩) 1 1]).run Tryz.prog W = .ok v1 w1 ∧ w1.ownsRow base 9 1 v1 (k + 1) (xs ++ [.string s]) ∧ W.grownBy w1 v.ownBlock ∧ (v1.ownBlock = v.ownBlock ∨ v1.ownBlock = some W.heap.size) := by
  obtain ⟨i0, hi, hzz⟩ := Option.map_eq_some_iff.1 info9
  simp only [Prod.mk.injEq] at hzz
  obtain ⟨hz0, hz1, hz2⟩ := hzz
  obtain ⟨v1, w1, h1, h2, h3, _, h4⟩ := run_append_own_at (P := Tryz.prog) (w := W) base 56 56 9 i0 _ 1 16 Tryz.underlying56 hi hz0 hz1 hz2 rfl (by omega) v k xs HO ⟨N, 0, none⟩ 1 1 [.string s] rfl (fun j u hu => by
    have hj : j = 0 := by
      have := (List.getElem?_eq_some_iff.1 hu).1
      simp at this
      exact this
    subst hj
    simp at hu
    subst hu
    have e : (⟨N, 0, none⟩ : Addr).add 0 = ⟨N, 0, none⟩ := by simp [Addr.add]
    rw [e]
    unfold World.cell?
    simp only [hN]
    rfl) (by simp; rfl) (by simp only [maxLen]; omega) (by omega) hbase
  exact ⟨v1, w1, h1, h2, h3, h4⟩
theorem eqnil (w : World) : (binOp .eql 90 (.slice none 0 0) (.slice none 0 0)).run Tryz.prog w = .ok (.bool true) w := by kernel_rfl
theorem convone (w : World) (o : UInt8) : (convert 90 9 (.slice (some ⟨w.heap.size, 0, none⟩) 1 1)).run Tryz.prog (w.alloc (.cells #[.int .u8 o.toNat] 5)) = .ok (.string ⟨#[o]⟩) (w.alloc (.cells #[.int .u8 o.toNat] 5)) := by
  exact run_convert_bytes_back (P := Tryz.prog) (w.alloc (.cells #[.int .u8 o.toNat] 5)) 90 9 5 ⟨w.heap.size, 0, none⟩ 1 [o] Tryz.underlying90 Tryz.underlying5 Tryz.underlying9 (fun j hj => by
    have e : j = 0 := by simp at hj; exact hj
    subst e
    have e2 : (⟨w.heap.size, 0, none⟩ : Addr).add 0 = ⟨w.heap.size, 0, none⟩ := by simp [Addr.add]
    rw [e2]
    simp)
theorem index34 (w : World) : (Instr.index 9 (S1 34) (.int .i64 0)).run Tryz.prog w = .ok (.int .u8 34) w := by kernel_rfl
theorem index92 (w : World) : (Instr.index 9 (S1 92) (.int .i64 0)).run Tryz.prog w = .ok (.int .u8 92) w := by kernel_rfl
theorem own_slice {w : World} {base e size n : Nat} {v : Value} {xs : List Value} (h : w.ownsRow base e size v n xs) : ∃ A c, v = .slice A n c := by
  rcases h.2 with ⟨rfl, h0⟩ | ⟨g, cap, cur, rfl, _⟩
  · subst h0
    exact ⟨_, _, rfl⟩
  · exact ⟨_, _, rfl⟩
theorem wpList_apprun {ops : Array Oper} {o : Oper} {rest : List Oper} {a : Act} {Q : Exit → Act → World → Prop} {W w1 : World} {v u v1 : Value} {T : TypeId} (hgd : o.guard = none) (s x : Operand)
    (ho : o.op = .call { callee := .builtin .append, args := #[s, x], argTypes := #[T, T] }) (ht : o.type = T) (hs : a.eval s = v) (hx : a.eval x = u) (hrun : (Builtin.append_ #[T, T] T #[v, u]).run Tryz.prog W = .ok v1 w1)
    (h : wpList Tryz.prog ops Q rest (a.put o.dst v1) w1) : wpList Tryz.prog ops Q (o :: rest) a W := by
  refine wpList_plain hgd fun K hK => ?_
  unfold Oper.wp execOp
  simp only [ho, ht, resolve, invoke, builtin, Sem.run_bind, Sem.run_pure, Result.andThen_ok, List.map_toArray, List.map_cons, List.map_nil, hs, hx, hrun]
  exact hK _ _ h
/-- What two bytes stand for: block b of the replacement. -/
def Byt (W : World) (own : Option Nat) (gB : Nat) (C : Array Value) (j : Nat) (x y : Int) : Prop :=
  ∃ b c D t fr, C[j]? = some (.slice (some ⟨b, 0, none⟩) 2 c) ∧ W.heap[b]? = some (.cells D t fr) ∧ D[0]? = some (.int .u8 x) ∧ D[1]? = some (.int .u8 y) ∧ own ≠ some b ∧ b ≠ gB
structure BL (w : World) (i : Int) (W : World) : Prop where
  bel : Below w.heap.size w W
  ex : ∃ (C : Array Value) (v : Value) (k : Nat) (xs : List Value), W.heap[w.heap.size + 1]? = some (.cells C 175 (0, 0)) ∧ C.size = 257 ∧ C[256]? = some v ∧ W.ownsRow w.heap.size 9 1 v k xs ∧ v.ownBlock ≠ some (w.heap.size + 1) ∧
    ((i = 2 ∧ k = 0) ∨ (i = 0 ∧ k = 1) ∨ (i = -2 ∧ k = 2)) ∧ (∀ j, j < 256 → j ≠ 34 → j ≠ 92 → C[j]? = some (.slice none 0 0)) ∧ (i = 2 → C[34]? = some (.slice none 0 0)) ∧ (0 ≤ i → C[92]? = some (.slice none 0 0)) ∧
    (i ≤ 0 → Byt W v.ownBlock (w.heap.size + 1) C 34 92 34) ∧ (i < 0 → Byt W v.ownBlock (w.heap.size + 1) C 92 92 92)
theorem bytesWorld_below (W : World) (s : ByteArray) : Below W.heap.size W (Go.Lib.bytesWorld W 5 s) where
  os := by simp [Go.Lib.bytesWorld, World.freeze, World.alloc, World.drew, -World.alloc_eq, -World.drew_eq]
  tape := by simp [Go.Lib.bytesWorld, World.freeze, World.alloc, World.drew, -World.alloc_eq, -World.drew_eq]
  output := by simp [Go.Lib.bytesWorld, World.freeze, World.alloc, World.drew, -World.alloc_eq, -World.drew_eq]
  size := by rw [Go.Lib.bytesWorld_size]; omega
  block := fun k hk => Go.Lib.bytesWorld_at_old W 5 s k hk
theorem set_far (w : World) (g j k : Nat) (v : Value) (h : k ≠ g) : (w.setCell ⟨g, j, none⟩ v).heap[k]? = w.heap[k]? := by
  unfold World.setCell
  simp only [Array.getElem?_modify]
  rw [if_neg (fun e => h e.symm)]
/-- A rule is laid: the row has its byte, the array its two bytes. -/
theorem step_facts {w wr w1 : World} {C : Array Value} {v v1 : Value} {k : Nat} {xs : List Value} {o : UInt8} {bs : Array Value} (hsz : w.heap.size + 1 < wr.heap.size) (bel : Below w.heap.size w wr) (hCs : C.size = 257) (hvg : v.ownBlock ≠ some (w.heap.size + 1))
    (hC1 : w1.heap[w.heap.size + 1]? = some (.cells C 175 (0, 0))) (hgr : ((wr.alloc (.cells bs 5)).alloc (.cells #[.string ⟨#[o]⟩] 9)).grownBy w1 v.ownBlock) (hat : v1.ownBlock = v.ownBlock ∨ v1.ownBlock = some ((wr.alloc (.cells bs 5)).alloc (.cells #[.string ⟨#[o]⟩] 9)).heap.size)
    (HO : wr.ownsRow w.heap.size 9 1 v k xs) (HO1 : w1.ownsRow w.heap.size 9 1 v1 (k + 1) (xs ++ [.string ⟨#[o]⟩])) (j : Nat) (hj : j < 256) (c : Nat) :
    ((Go.Lib.bytesWorld (w1.setCell ⟨w.heap.size + 1, 256, none⟩ v1) 5 ⟨#[92, o]⟩).setCell ⟨w.heap.size + 1, j, none⟩ (.slice (some ⟨w1.heap.size, 0, none⟩) 2 c)).heap[w.heap.size + 1]? = some (.cells ((C.setIfInBounds 256 v1).setIfInBounds j (.slice (some ⟨w1.heap.size, 0, none⟩) 2 c)) 175 (0, 0)) ∧
    Below w.heap.size w ((Go.Lib.bytesWorld (w1.setCell ⟨w.heap.size + 1, 256, none⟩ v1) 5 ⟨#[92, o]⟩).setCell ⟨w.heap.size + 1, j, none⟩ (.slice (some ⟨w1.heap.size, 0, none⟩) 2 c)) ∧
    ((Go.Lib.bytesWorld (w1.setCell ⟨w.heap.size + 1, 256, none⟩ v1) 5 ⟨#[92, o]⟩).setCell ⟨w.heap.size + 1, j, none⟩ (.slice (some ⟨w1.heap.size, 0, none⟩) 2 c)).ownsRow w.heap.size 9 1 v1 (k + 1) (xs ++ [.string ⟨#[o]⟩]) ∧
    v1.ownBlock ≠ some (w.heap.size + 1) ∧
    Byt ((Go.Lib.bytesWorld (w1.setCell ⟨w.heap.size + 1, 256, none⟩ v1) 5 ⟨#[92, o]⟩).setCell ⟨w.heap.size + 1, j, none⟩ (.slice (some ⟨w1.heap.size, 0, none⟩) 2 c)) v1.ownBlock (w.heap.size + 1) ((C.setIfInBounds 256 v1).setIfInBounds j (.slice (some ⟨w1.heap.size, 0, none⟩) 2 c)) j 92 o.toNat ∧
    (∀ q x y, q < 256 → q ≠ j → Byt wr v.ownBlock (w.heap.size + 1) C q x y → Byt ((Go.Lib.bytesWorld (w1.setCell ⟨w.heap.size + 1, 256, none⟩ v1) 5 ⟨#[92, o]⟩).setCell ⟨w.heap.size + 1, j, none⟩ (.slice (some ⟨w1.heap.size, 0, none⟩) 2 c)) v1.ownBlock (w.heap.size + 1) ((C.setIfInBounds 256 v1).setIfInBounds j (.slice (some ⟨w1.heap.size, 0, none⟩) 2 c)) q x y) := by
  have hs2 : ((wr.alloc (.cells bs 5)).alloc (.cells #[.string ⟨#[o]⟩] 9)).heap.size = wr.heap.size + 2 := by simp
  have hs1 : wr.heap.size + 2 ≤ w1.heap.size := by have := hgr.size; rw [hs2] at this; exact this
  have hbs := bel.size
  have hset : (w1.setCell ⟨w.heap.size + 1, 256, none⟩ v1).heap.size = w1.heap.size := by unfold World.setCell; simp
  have hold : ∀ q, q < w1.heap.size → q ≠ w.heap.size + 1 → ((Go.Lib.bytesWorld (w1.setCell ⟨w.heap.size + 1, 256, none⟩ v1) 5 ⟨#[92, o]⟩).setCell ⟨w.heap.size + 1, j, none⟩ (.slice (some ⟨w1.heap.size, 0, none⟩) 2 c)).heap[q]? = w1.heap[q]? := fun q hq hne => by
    rw [set_far _ _ _ _ _ hne, Go.Lib.bytesWorld_at_old _ _ _ _ (by rw [hset]; exact hq), set_far _ _ _ _ _ hne]
  have hgrow : ∀ q, q < wr.heap.size → v.ownBlock ≠ some q → w1.heap[q]? = wr.heap[q]? := fun q hq hne => by
    rw [hgr.block q (by rw [hs2]; omega) (fun e => hne e.symm), old_alloc (by simp; omega), old_alloc hq]
  have hv1 : v1.ownBlock ≠ some (w.heap.size + 1) := by
    rcases hat with e | e
    · rw [e]; exact hvg
    · rw [e, hs2]
      intro h
      injection h with h
      omega
  have hB1 : Below w.heap.size w w1 := by
    refine Below.grown (B := w.heap.size) (((bel.alloc hbs _).alloc (by simp; omega) _)) hgr (by rw [hs2]; omega) (fun q hq => ?_)
    rcases HO.2 with ⟨rfl, _⟩ | ⟨g, cap, cur, rfl, hb, _⟩
    · simp [Value.ownBlock] at hq
    · have : g = q := by simpa [Value.ownBlock] using hq
      omega
  refine ⟨?_, ?_, ?_, hv1, ?_, ?_⟩
  · refine set_blk ?_ j _
    rw [Go.Lib.bytesWorld_at_old _ _ _ _ (by rw [hset]; exact lt_blk hC1)]
    exact set_blk hC1 256 v1
  · refine Below.setCell ?_ (by simp) _
    refine (hB1.setCell (by simp) _).trans ((bytesWorld_below _ _).mono ?_)
    rw [hset]
    omega
  · refine own_move HO1 (fun q hq => hold q (own_lt HO1 q hq) (fun e => hv1 (e ▸ hq)))
  · refine ⟨w1.heap.size, c, Go.Lib.bytesCells (w1.setCell ⟨w.heap.size + 1, 256, none⟩ v1) 5 ⟨#[92, o]⟩, 5, ((Go.Lib.bytesCells (w1.setCell ⟨w.heap.size + 1, 256, none⟩ v1) 5 ⟨#[92, o]⟩).size, (Go.Lib.bytesCells (w1.setCell ⟨w.heap.size + 1, 256, none⟩ v1) 5 ⟨#[92, o]⟩).size + 1), ?_, ?_, ?_, ?_, ?_, by have := lt_blk hC1; omega⟩
    · rw [Array.getElem?_setIfInBounds_self_of_lt (by simp [hCs]; omega)]
    · rw [set_far _ _ _ _ _ (by have := lt_blk hC1; omega), ← hset]
      exact Go.Lib.bytesWorld_at_new _ _ _
    · unfold Go.Lib.bytesCells
      rw [Array.getElem?_append_left (by simp)]
      simp
    · unfold Go.Lib.bytesCells
      rw [Array.getElem?_append_left (by simp)]
      simp
    · intro e
      have := own_lt HO1 _ e
      omega
  · rintro q x y hq hne ⟨b, c2, D, t, fr, h1, h2, h3, h4, h5, h6⟩
    have hb := lt_blk h2
    refine ⟨b, c2, D, t, fr, ?_, ?_, h3, h4, ?_, h6⟩
    · rw [Array.getElem?_setIfInBounds_ne (by omega), Array.getElem?_setIfInBounds_ne (by omega)]
      exact h1
    · rw [hold b (by omega) h6, hgrow b hb h5]
      exact h2
    · rcases hat with e | e
      · rw [e]; exact h5
      · rw [e, hs2]
        intro h
        injection h with h
        omega
theorem bl_start (w : World) : BL w 2 ((w.alloc (.cells #[.string ⟨#[]⟩, .string ⟨#[]⟩] 9)).alloc (.cells (L175 (.slice (some ⟨w.heap.size, 0, none⟩) 0 2)).toArray 175)) := by
  have hb : Below w.heap.size w ((w.alloc (.cells #[.string ⟨#[]⟩, .string ⟨#[]⟩] 9)).alloc (.cells (L175 (.slice (some ⟨w.heap.size, 0, none⟩) 0 2)).toArray 175)) := ((Below.refl _ _).alloc (Nat.le_refl _) _).alloc (by simp) _
  have h1 := heap_alloc_last (w.alloc (.cells #[.string ⟨#[]⟩, .string ⟨#[]⟩] 9)) (.cells (L175 (.slice (some ⟨w.heap.size, 0, none⟩) 0 2)).toArray 175)
  rw [show (w.alloc (.cells #[.string ⟨#[]⟩, .string ⟨#[]⟩] 9)).heap.size = w.heap.size + 1 from by simp] at h1
  have h2 : ((w.alloc (.cells #[.string ⟨#[]⟩, .string ⟨#[]⟩] 9)).alloc (.cells (L175 (.slice (some ⟨w.heap.size, 0, none⟩) 0 2)).toArray 175)).heap[w.heap.size]? = some (.cells #[.string ⟨#[]⟩, .string ⟨#[]⟩] 9 (0, 0)) := (old_alloc (by simp)).trans (heap_alloc_last w _)
  refine ⟨hb, _, _, 0, [], h1, by rw [List.size_toArray, L175_len], L175_last _, ⟨rfl, .inr ⟨w.heap.size, 2, _, rfl, Nat.le_refl _, h2, Nat.zero_le _, by simp [maxLen], rfl, rfl⟩⟩, ?_, .inl ⟨rfl, rfl⟩, fun j h _ _ => L175_get _ j h, fun _ => L175_get _ 34 (by omega), fun _ => L175_get _ 92 (by omega), fun h => by omega, fun h => by omega⟩
  intro e
  simp [Value.ownBlock] at e
set_option maxRecDepth 1000000 in
set_option maxHeartbeats 1600000 in
theorem build_calls (g a c : Nat) (w : World) (hc : 4 ≤ c) (h4 : w.cell? ⟨g, 4, none⟩ = some (.slice (some ⟨a, 0, none⟩) 4 c))
    (x0 : w.cell? ⟨a, 0, none⟩ = some (S1 92)) (x1 : w.cell? ⟨a, 1, none⟩ = some (S2 92 92)) (x2 : w.cell? ⟨a, 2, none⟩ = some (S1 34)) (x3 : w.cell? ⟨a, 3, none⟩ = some (S2 92 34)) :
    Calls Tryz.prog 79 #[.pointer (some ⟨g, 0, none⟩)] w fun e w' => ∃ gB, e = .returned (.iface 176 (.pointer (some ⟨gB, 0, none⟩))) ∧ BSR w' gB ∧ w.heap.size ≤ gB ∧ Below w.heap.size w w' := by
  have hu144 := Tryz.underlying144
  go_enter Tryz.func79, Tryz.ntmps79
  go_wp2
  go_loop [4, 5] (fun s4 s5 => (s4 = .bool true ∧ s5 = .int .i64 0) ∨ (s4 = .bool false ∧ s5 = .int .i64 2) ∨ (s4 = .bool false ∧ s5 = .int .i64 4)) (fun _ s5 => (4 - (intOf s5)).toNat)
  case atStart => exact .inl ⟨rfl, rfl⟩
  case round =>
    rcases hrel with ⟨rfl, rfl⟩ | ⟨rfl, rfl⟩ | ⟨rfl, rfl⟩
    · go_wp2
      go_round
      case rel => exact .inr (.inl ⟨rfl, rfl⟩)
      case measure => simp [intOf]
    · go_wp2
      go_round
      case rel => exact .inr (.inr ⟨rfl, rfl⟩)
      case measure => simp [intOf]
    · have hz := zero175
      have hal := alloc175
      have hmk := make56
      have hst := fun (A : Option Addr) (l c : Nat) (o : Obj) => store175 w A l c o
      unfold L175 at hst
      go_upto_region 26 with (fail)
      go_wp2
      have hat0 : Aside0 (BL w 2 ((w.alloc (.cells #[.string ⟨#[]⟩, .string ⟨#[]⟩] 9)).alloc (.cells (L175 (.slice (some ⟨w.heap.size, 0, none⟩) 0 2)).toArray 175))) := ⟨bl_start w⟩
      go_loopw [12] (fun s12 wr => ∃ i : Int, s12 = .int .i64 i ∧ (i = 2 ∨ i = 0 ∨ i = -2) ∧ Aside0 (BL w i wr)) (fun s12 _ => (intOf s12 + 2).toNat)
      case atStart => exact ⟨2, rfl, .inl rfl, hat0⟩
      case round =>
        clear hat0 hz hal hmk hst
        obtain ⟨i, rfl, hi, HB⟩ := hrel
        rcases hi with rfl | rfl | rfl
        · obtain ⟨bel, C, v, k, xs, hC, hCs, hCv, HO, hvg, hk, hno, h34, h92, hb34, hb92⟩ := HB.out
          clear HB
          have hsz := lt_blk hC
          have hal := lt_of_cell x0
          have y2 : wr.cell? ⟨a, 2, none⟩ = some (S1 34) := (bel.cell (p := ⟨a, 2, none⟩) hal).trans x2
          have y3 : wr.cell? ⟨a, 3, none⟩ = some (S2 92 34) := (bel.cell (p := ⟨a, 3, none⟩) hal).trans x3
          have cv : wr.cell? ⟨w.heap.size + 1, 256, none⟩ = some v := (cell_blk hC 256).trans hCv
          have co : wr.cell? ⟨w.heap.size + 1, 34, none⟩ = some (.slice none 0 0) := (cell_blk hC 34).trans (h34 rfl)
          have hN := Aside0.mk (h34 rfl)
          have H92 := Aside0.mk h92
          have HB34 := Aside0.mk hb34
          have HNO := Aside0.mk hno
          clear h34 h92 hb34 hb92 hno
          have hkk : k = 0 := by omega
          subst hkk
          have HO2 : ((wr.alloc (.cells #[.int .u8 34] 5)).alloc (.cells #[.string ⟨#[34]⟩] 9)).ownsRow w.heap.size 9 1 v 0 xs := (HO.alloc _).alloc _
          have hbs := bel.size
          obtain ⟨v1, w1, hrun, HO1, hgr, hat⟩ := run_app9 (N := wr.heap.size + 1) (s := ⟨#[34]⟩) HO2 (by have h_ := heap_alloc_last (wr.alloc (.cells #[.int .u8 34] 5)) (.cells #[.string ⟨#[34]⟩] 9); simpa using h_) (by simp; omega) (by omega)
          obtain ⟨A1, c1, rfl⟩ := own_slice HO1
          have HO1 := Aside0.mk HO1
          have HO := Aside0.mk HO
          have hvb : v.ownBlock ≠ some (w.heap.size + 1) := hvg
          have hC1 : w1.heap[w.heap.size + 1]? = some (.cells C 175 (0, 0)) := (hgr.block _ (by simp; omega) (fun e => hvg e.symm)).trans ((old_alloc (by simp; omega)).trans ((old_alloc hsz).trans hC))
          have cv1 : w1.cell? ⟨w.heap.size + 1, 256, none⟩ = some v := (cell_blk hC1 256).trans hCv
          have f1 : w1.frozen? ⟨w.heap.size + 1, 256, none⟩ = false := frozen_blk hC1 256
          have hz1 : wr.heap.size + 2 ≤ w1.heap.size := by have := hgr.size; simp at this; exact this
          have HGR := Aside0.mk hgr
          clear HO2 hgr
          have hbyte := index34
          have hnil := eqnil
          have hcb : (convert 90 9 (.slice (some ⟨wr.heap.size, 0, none⟩) 1 1)).run Tryz.prog (wr.alloc (.cells #[.int .u8 34] 5)) = .ok (.string ⟨#[34]⟩) (wr.alloc (.cells #[.int .u8 34] 5)) := convone wr 34
          have HRUN := Aside0.mk hrun
          clear hrun
          go_upto_region 34 with (at_builtin; refine wpList_apprun rfl (.tmp 119) (.tmp 123) rfl rfl (by rfl) (by rfl) HRUN.out ?_)
          have hC2 : (w1.setCell ⟨w.heap.size + 1, 256, none⟩ (.slice A1 (0 + 1) c1)).heap[w.heap.size + 1]? = some (.cells (C.setIfInBounds 256 (.slice A1 (0 + 1) c1)) 175 (0, 0)) := set_blk hC1 256 (.slice A1 (0 + 1) c1)
          have hcv : (convert 9 90 (.string ⟨#[92, 34]⟩)).run Tryz.prog (w1.setCell ⟨w.heap.size + 1, 256, none⟩ (.slice A1 (0 + 1) c1)) = .ok (.slice (some ⟨w1.heap.size, 0, none⟩) 2 (grownCap (w1.setCell ⟨w.heap.size + 1, 256, none⟩ (.slice A1 (0 + 1) c1)) 2 0 5)) (Go.Lib.bytesWorld (w1.setCell ⟨w.heap.size + 1, 256, none⟩ (.slice A1 (0 + 1) c1)) 5 ⟨#[92, 34]⟩) := by
            have h_ := Go.Lib.run_convert_string_bytes (P := Tryz.prog) (w1.setCell ⟨w.heap.size + 1, 256, none⟩ (.slice A1 (0 + 1) c1)) 9 90 5 ⟨#[92, 34]⟩ Tryz.underlying9 Tryz.underlying90 Tryz.underlying5
            rw [show (w1.setCell ⟨w.heap.size + 1, 256, none⟩ (.slice A1 (0 + 1) c1)).heap.size = w1.heap.size by unfold World.setCell; simp] at h_
            exact h_
          obtain ⟨q1, q2, q3, q4, q5, q6⟩ := step_facts hsz bel hCs hvg hC1 HGR.out hat HO.out HO1.out 34 (by omega) (grownCap (w1.setCell ⟨w.heap.size + 1, 256, none⟩ (.slice A1 (0 + 1) c1)) 2 0 5)
          have hC3 : (Go.Lib.bytesWorld (w1.setCell ⟨w.heap.size + 1, 256, none⟩ (.slice A1 (0 + 1) c1)) 5 ⟨#[92, 34]⟩).heap[w.heap.size + 1]? = some (.cells (C.setIfInBounds 256 (.slice A1 (0 + 1) c1)) 175 (0, 0)) := ((bytesWorld_below _ _).block _ (lt_blk hC2)).trans hC2
          generalize grownCap (w1.setCell ⟨w.heap.size + 1, 256, none⟩ (.slice A1 (0 + 1) c1)) 2 0 5 = cp at hcv q1 q2 q3 q4 q5 q6
          have e3 : (Go.Lib.bytesWorld (w1.setCell ⟨w.heap.size + 1, 256, none⟩ (.slice A1 (0 + 1) c1)) 5 ⟨#[92, 34]⟩).cell? ⟨w.heap.size + 1, 34, none⟩ = some (.slice none 0 0) := (cell_blk hC3 34).trans (by rw [Array.getElem?_setIfInBounds_ne (by omega)]; exact hN.out)
          have f3 : (Go.Lib.bytesWorld (w1.setCell ⟨w.heap.size + 1, 256, none⟩ (.slice A1 (0 + 1) c1)) 5 ⟨#[92, 34]⟩).frozen? ⟨w.heap.size + 1, 34, none⟩ = false := frozen_blk hC3 34
          have hBN : Aside0 (BL w (2 - 2) ((Go.Lib.bytesWorld (w1.setCell ⟨w.heap.size + 1, 256, none⟩ (.slice A1 (0 + 1) c1)) 5 ⟨#[92, 34]⟩).setCell ⟨w.heap.size + 1, 34, none⟩ (.slice (some ⟨w1.heap.size, 0, none⟩) 2 cp))) := ⟨q2, _, (.slice A1 (0 + 1) c1), 0 + 1, _, q1, by simp [hCs], by rw [Array.getElem?_setIfInBounds_ne (by omega), Array.getElem?_setIfInBounds_self_of_lt (by omega)], q3, q4, by omega,
            fun j h1 h2 h3 => by rw [Array.getElem?_setIfInBounds_ne (by omega), Array.getElem?_setIfInBounds_ne (by omega)]; exact HNO.out j h1 h2 h3, fun h => by omega, fun h => by rw [Array.getElem?_setIfInBounds_ne (by omega), Array.getElem?_setIfInBounds_ne (by omega)]; exact H92.out (by omega), fun h => q5, fun h => by omega⟩
          clear q1 q2 q3 q4 q5 q6 hC2 hC3 HGR HO HO1 bel HNO H92 HB34 hN hat hC hC1 hvg hvb
          go_wp2
          go_roundw
          case rel => exact ⟨2 - 2, by rfl, by omega, hBN⟩
          case measure => simp [intOf]
        · obtain ⟨bel, C, v, k, xs, hC, hCs, hCv, HO, hvg, hk, hno, h34, h92, hb34, hb92⟩ := HB.out
          clear HB
          have hsz := lt_blk hC
          have hal := lt_of_cell x0
          have y2 : wr.cell? ⟨a, 0, none⟩ = some (S1 92) := (bel.cell (p := ⟨a, 0, none⟩) hal).trans x0
          have y3 : wr.cell? ⟨a, 1, none⟩ = some (S2 92 92) := (bel.cell (p := ⟨a, 1, none⟩) hal).trans x1
          have cv : wr.cell? ⟨w.heap.size + 1, 256, none⟩ = some v := (cell_blk hC 256).trans hCv
          have co : wr.cell? ⟨w.heap.size + 1, 92, none⟩ = some (.slice none 0 0) := (cell_blk hC 92).trans (h92 (by omega))
          have hN := Aside0.mk (h92 (by omega))
          have H92 := Aside0.mk h92
          have HB34 := Aside0.mk hb34
          have HNO := Aside0.mk hno
          clear h34 h92 hb34 hb92 hno
          have hkk : k = 1 := by omega
          subst hkk
          have HO2 : ((wr.alloc (.cells #[.int .u8 92] 5)).alloc (.cells #[.string ⟨#[92]⟩] 9)).ownsRow w.heap.size 9 1 v 1 xs := (HO.alloc _).alloc _
          have hbs := bel.size
          obtain ⟨v1, w1, hrun, HO1, hgr, hat⟩ := run_app9 (N := wr.heap.size + 1) (s := ⟨#[92]⟩) HO2 (by have h_ := heap_alloc_last (wr.alloc (.cells #[.int .u8 92] 5)) (.cells #[.string ⟨#[92]⟩] 9); simpa using h_) (by simp; omega) (by omega)
          obtain ⟨A1, c1, rfl⟩ := own_slice HO1
          have HO1 := Aside0.mk HO1
          have HO := Aside0.mk HO
          have hvb : v.ownBlock ≠ some (w.heap.size + 1) := hvg
          have hC1 : w1.heap[w.heap.size + 1]? = some (.cells C 175 (0, 0)) := (hgr.block _ (by simp; omega) (fun e => hvg e.symm)).trans ((old_alloc (by simp; omega)).trans ((old_alloc hsz).trans hC))
          have cv1 : w1.cell? ⟨w.heap.size + 1, 256, none⟩ = some v := (cell_blk hC1 256).trans hCv
          have f1 : w1.frozen? ⟨w.heap.size + 1, 256, none⟩ = false := frozen_blk hC1 256
          have hz1 : wr.heap.size + 2 ≤ w1.heap.size := by have := hgr.size; simp at this; exact this
          have HGR := Aside0.mk hgr
          clear HO2 hgr
          have hbyte := index92
          have hnil := eqnil
          have hcb : (convert 90 9 (.slice (some ⟨wr.heap.size, 0, none⟩) 1 1)).run Tryz.prog (wr.alloc (.cells #[.int .u8 92] 5)) = .ok (.string ⟨#[92]⟩) (wr.alloc (.cells #[.int .u8 92] 5)) := convone wr 92
          have HRUN := Aside0.mk hrun
          clear hrun
          go_upto_region 34 with (at_builtin; refine wpList_apprun rfl (.tmp 119) (.tmp 123) rfl rfl (by rfl) (by rfl) HRUN.out ?_)
          have hC2 : (w1.setCell ⟨w.heap.size + 1, 256, none⟩ (.slice A1 (1 + 1) c1)).heap[w.heap.size + 1]? = some (.cells (C.setIfInBounds 256 (.slice A1 (1 + 1) c1)) 175 (0, 0)) := set_blk hC1 256 (.slice A1 (1 + 1) c1)
          have hcv : (convert 9 90 (.string ⟨#[92, 92]⟩)).run Tryz.prog (w1.setCell ⟨w.heap.size + 1, 256, none⟩ (.slice A1 (1 + 1) c1)) = .ok (.slice (some ⟨w1.heap.size, 0, none⟩) 2 (grownCap (w1.setCell ⟨w.heap.size + 1, 256, none⟩ (.slice A1 (1 + 1) c1)) 2 0 5)) (Go.Lib.bytesWorld (w1.setCell ⟨w.heap.size + 1, 256, none⟩ (.slice A1 (1 + 1) c1)) 5 ⟨#[92, 92]⟩) := by
            have h_ := Go.Lib.run_convert_string_bytes (P := Tryz.prog) (w1.setCell ⟨w.heap.size + 1, 256, none⟩ (.slice A1 (1 + 1) c1)) 9 90 5 ⟨#[92, 92]⟩ Tryz.underlying9 Tryz.underlying90 Tryz.underlying5
            rw [show (w1.setCell ⟨w.heap.size + 1, 256, none⟩ (.slice A1 (1 + 1) c1)).heap.size = w1.heap.size by unfold World.setCell; simp] at h_
            exact h_
          obtain ⟨q1, q2, q3, q4, q5, q6⟩ := step_facts hsz bel hCs hvg hC1 HGR.out hat HO.out HO1.out 92 (by omega) (grownCap (w1.setCell ⟨w.heap.size + 1, 256, none⟩ (.slice A1 (1 + 1) c1)) 2 0 5)
          have hC3 : (Go.Lib.bytesWorld (w1.setCell ⟨w.heap.size + 1, 256, none⟩ (.slice A1 (1 + 1) c1)) 5 ⟨#[92, 92]⟩).heap[w.heap.size + 1]? = some (.cells (C.setIfInBounds 256 (.slice A1 (1 + 1) c1)) 175 (0, 0)) := ((bytesWorld_below _ _).block _ (lt_blk hC2)).trans hC2
          generalize grownCap (w1.setCell ⟨w.heap.size + 1, 256, none⟩ (.slice A1 (1 + 1) c1)) 2 0 5 = cp at hcv q1 q2 q3 q4 q5 q6
          have e3 : (Go.Lib.bytesWorld (w1.setCell ⟨w.heap.size + 1, 256, none⟩ (.slice A1 (1 + 1) c1)) 5 ⟨#[92, 92]⟩).cell? ⟨w.heap.size + 1, 92, none⟩ = some (.slice none 0 0) := (cell_blk hC3 92).trans (by rw [Array.getElem?_setIfInBounds_ne (by omega)]; exact hN.out)
          have f3 : (Go.Lib.bytesWorld (w1.setCell ⟨w.heap.size + 1, 256, none⟩ (.slice A1 (1 + 1) c1)) 5 ⟨#[92, 92]⟩).frozen? ⟨w.heap.size + 1, 92, none⟩ = false := frozen_blk hC3 92
          have hBN : Aside0 (BL w (0 - 2) ((Go.Lib.bytesWorld (w1.setCell ⟨w.heap.size + 1, 256, none⟩ (.slice A1 (1 + 1) c1)) 5 ⟨#[92, 92]⟩).setCell ⟨w.heap.size + 1, 92, none⟩ (.slice (some ⟨w1.heap.size, 0, none⟩) 2 cp))) := ⟨q2, _, (.slice A1 (1 + 1) c1), 1 + 1, _, q1, by simp [hCs], by rw [Array.getElem?_setIfInBounds_ne (by omega), Array.getElem?_setIfInBounds_self_of_lt (by omega)], q3, q4, by omega,
            fun j h1 h2 h3 => by rw [Array.getElem?_setIfInBounds_ne (by omega), Array.getElem?_setIfInBounds_ne (by omega)]; exact HNO.out j h1 h2 h3, fun h => by omega, fun h => by omega, fun h => q6 34 _ _ (by omega) (by omega) (HB34.out (by omega)), fun h => q5⟩
          clear q1 q2 q3 q4 q5 q6 hC2 hC3 HGR HO HO1 bel HNO H92 HB34 hN hat hC hC1 hvg hvb
          go_wp2
          go_roundw
          case rel => exact ⟨0 - 2, by rfl, by omega, hBN⟩
          case measure => simp [intOf]
        · obtain ⟨bel, C, v, k, xs, hC, hCs, hCv, HO, hvg, hk, hno, h34, h92, hb34, hb92⟩ := HB.out
          have hkk : k = 2 := by omega
          subst hkk
          have hbsr : Aside0 (BSR wr (w.heap.size + 1)) := ⟨{
            none_ := fun j h1 h2 h3 => (cell_blk hC j).trans (hno j h1 h2 h3)
            at34 := by
              obtain ⟨b, c2, D, t, fr, h1, h2, h3, h4, _⟩ := hb34 (by omega)
              exact ⟨b, c2, (cell_blk hC 34).trans h1, (cell_blk h2 0).trans h3, (cell_blk h2 1).trans h4⟩
            at92 := by
              obtain ⟨b, c2, D, t, fr, h1, h2, h3, h4, _⟩ := hb92 (by omega)
              exact ⟨b, c2, (cell_blk hC 92).trans h1, (cell_blk h2 0).trans h3, (cell_blk h2 1).trans h4⟩
            row := by
              obtain ⟨A_, c_, e_⟩ := own_slice HO
              exact ⟨A_, c_, (cell_blk hC 256).trans (hCv.trans (congrArg some e_))⟩ }⟩
          have HBE := Aside0.mk bel
          clear HB bel hC hCs hCv HO hvg hno h34 h92 hb34 hb92
          go_wp2
          go_ret
          exact ⟨_, rfl, hbsr.out, by omega, HBE.out⟩
end Go.Proofs.YtfabnapjbgamaaaGreatDoor.Val
