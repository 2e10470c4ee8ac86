import Derived.Test.YtallbobeehbkoaaProg
import Derived.Test.YtallbobeehbkoaaWKept
import Derived.Test.YtallbobeehbkoaaWLast
import Derived.WalkKit
import Derived.KernelRfl
import Derived.OwnWalk
import Derived.WalkSpells
import Derived.Maps.OwnOps
import Derived.Maps.OwnSet
import Derived.Maps.AppendAt
import Derived.Lib.SliceRun
namespace Go.Proofs.Ytallbobeehbkoaa.Boxes
open Go.RowKit Go.Proofs.YtallbobeehbkoaaW.PrintWords

structure Dv where
  c : Int
  p : Int
  s : Int
  A : Option Addr
  n : Nat
  k : Nat
def Dv.cells (d : Dv) : List Value := [.int .i64 d.c, .int .i64 d.p, .int .i64 d.s, .slice d.A d.n d.k]
def flat (ds : List Dv) : List Value := ds.flatMap Dv.cells
theorem flat_append (a b : List Dv) : flat (a ++ b) = flat a ++ flat b := by simp [flat]
theorem flat_one (d : Dv) : flat [d] = d.cells := by simp [flat]
theorem flat_length : ∀ ds : List Dv, (flat ds).length = ds.length * 4
  | [] => rfl
  | d :: r => by
    have h := flat_length r
    simp only [flat, List.flatMap_cons, List.length_append, List.length_cons] at *
    rw [h]
    simp [Dv.cells]
    omega
theorem cells_plain (d : Dv) : ∀ u ∈ d.cells, u.oneCell' = true := by
  intro u hu
  simp [Dv.cells] at hu
  rcases hu with rfl | rfl | rfl | rfl <;> rfl
theorem flat_plain (ds : List Dv) : ∀ u ∈ flat ds, u.oneCell' = true := by
  intro u hu
  simp only [flat, List.mem_flatMap] at hu
  obtain ⟨d, _, h⟩ := hu
  exact cells_plain d u h
theorem flat_at : ∀ (ds : List Dv) (i : Nat) (d : Dv), ds[i]? = some d → ∀ j u, d.cells[j]? = some u → (flat ds)[i * 4 + j]? = some u
  | [], i, d, h, j, u, hu => by simp at h
  | x :: r, 0, d, h, j, u, hu => by
    simp at h
    subst h
    have hj : j < 4 := by
      have := (List.getElem?_eq_some_iff.1 hu).1
      simpa [Dv.cells] using this
    simp only [flat, List.flatMap_cons, Nat.zero_mul, Nat.zero_add]
    rw [List.getElem?_append_left (by simpa [Dv.cells] using hj)]
    exact hu
  | x :: r, i + 1, d, h, j, u, hu => by
    have h2 := flat_at r i d (by simpa using h) j u hu
    simp only [flat, List.flatMap_cons] at *
    rw [List.getElem?_append_right (by simp [Dv.cells]; omega)]
    have e : (i + 1) * 4 + j - x.cells.length = i * 4 + j := by simp [Dv.cells]; omega
    rw [e]
    exact h2

/-- THE VALUE v OWNS THE DELIVERIES ds. -/
def Row (w : World) (base : Nat) (v : Value) (ds : List Dv) : Prop := w.ownsRow base 29 4 v ds.length (flat ds)
theorem Row.nil (w : World) (base : Nat) : Row w base (.slice none 0 0) [] := own_nil _ _ _ _
theorem Row.less {w : World} {b base : Nat} {v : Value} {ds : List Dv} (h : Row w b v ds) (hle : base ≤ b) : Row w base v ds := own_less h hle
theorem Row.slice {w : World} {base : Nat} {v : Value} {ds : List Dv} (h : Row w base v ds) : ∃ A c, v = .slice A ds.length c := own_slice h
theorem Row.lt {w : World} {base : Nat} {v : Value} {ds : List Dv} (h : Row w base v ds) : ∀ k, v.ownBlock = some k → base ≤ k ∧ k < w.heap.size := World.ownsRow.lt h
theorem Row.of_block {w w' : World} {base : Nat} {v : Value} {ds : List Dv} (h : Row w base v ds) (hb : ∀ k, v.ownBlock = some k → w'.heap[k]? = w.heap[k]?) : Row w' base v ds := by
  obtain ⟨h1, h2⟩ := h
  refine ⟨h1, ?_⟩
  rcases h2 with h2 | ⟨g, cap, cur, rfl, hg, hh, r⟩
  · exact .inl h2
  · exact .inr ⟨g, cap, cur, rfl, hg, (hb g rfl).trans hh, r⟩
theorem Row.typed {w : World} {base : Nat} {v : Value} {ds : List Dv} (h : Row w base v ds) : ∀ k, v.ownBlock = some k → ∃ cs, w.heap[k]? = some (.cells cs 29 (0, 0)) := by
  intro k hk
  rcases h.2 with ⟨rfl, _⟩ | ⟨g, cap, cur, rfl, hg, hh, r⟩
  · cases hk
  · simp [Value.ownBlock] at hk
    subst hk
    exact ⟨cur, hh⟩

/-- THE WORLD HAS TURNED IN THE BLOCKS OF S, AND IN NEW ONES, ALONE. -/
structure Turn (S : Nat → Prop) (w w' : World) : Prop where
  os : w'.os = w.os
  tape : w'.tape = w.tape
  output : w'.output = w.output
  size : w.heap.size ≤ w'.heap.size
  block : ∀ k, k < w.heap.size → ¬ S k → w'.heap[k]? = w.heap[k]?
theorem Turn.refl (S : Nat → Prop) (w : World) : Turn S w w := ⟨rfl, rfl, rfl, Nat.le_refl _, fun _ _ _ => rfl⟩
theorem Turn.trans {S S2 : Nat → Prop} {w w1 w2 : World} (h : Turn S w w1) (k : Turn S2 w1 w2) (hs : ∀ q, S2 q → S q ∨ w.heap.size ≤ q) : Turn S w w2 :=
  ⟨k.os.trans h.os, k.tape.trans h.tape, k.output.trans h.output, Nat.le_trans h.size k.size, fun q hq hn =>
    (k.block q (Nat.lt_of_lt_of_le hq h.size) (fun h2 => (hs q h2).elim hn (fun h3 => by omega))).trans (h.block q hq hn)⟩
theorem Turn.mono {S S2 : Nat → Prop} {w w1 : World} (h : Turn S w w1) (hs : ∀ q, S q → S2 q) : Turn S2 w w1 :=
  ⟨h.os, h.tape, h.output, h.size, fun q hq hn => h.block q hq (fun h2 => hn (hs q h2))⟩
theorem Turn.of_below {S : Nat → Prop} {w w1 : World} (h : Below w.heap.size w w1) : Turn S w w1 := ⟨h.os, h.tape, h.output, h.size, fun q hq _ => h.block q hq⟩
theorem Turn.below {S : Nat → Prop} {w w1 : World} {B : Nat} (h : Turn S w w1) (hB : B ≤ w.heap.size) (hs : ∀ q, S q → B ≤ q) : Below B w w1 :=
  ⟨h.os, h.tape, h.output, h.size, fun q hq => h.block q (Nat.lt_of_lt_of_le hq hB) (fun h2 => by have := hs q h2; omega)⟩
theorem Turn.of_grown {S : Nat → Prop} {w w1 : World} {row : Option Nat} (h : w.grownBy w1 row) (hr : ∀ k, row = some k → S k) : Turn S w w1 :=
  ⟨h.os, h.tape, h.output, h.size, fun q hq hn => h.block q hq (fun e => hn (hr q e.symm))⟩
theorem Row.turn {S : Nat → Prop} {w w' : World} {base : Nat} {v : Value} {ds : List Dv} (h : Row w base v ds) (k : Turn S w w') (hs : ∀ q, v.ownBlock = some q → ¬ S q) : Row w' base v ds :=
  h.of_block fun q hq => k.block q (h.lt q hq).2 (hs q hq)
theorem Row.below {w w' : World} {base : Nat} {v : Value} {ds : List Dv} (h : Row w base v ds) (k : Below w.heap.size w w') : Row w' base v ds :=
  h.of_block fun q hq => k.block q (h.lt q hq).2

/-! ### the map of slices, its elements as they stand -/
def rawR (v : Value) : Option (DataW Value × List MemPlace) := some (.held v, [])
abbrev nilS : Value := .slice none 0 0
abbrev wf (k : Int) : Prop := (Lit.int .i64 k).wf = true
theorem keyed3 : Maps.Keyed Try.prog 3 := Maps.int_keyed Try.underlying3
theorem key3 (k : Int) (h : wf k) : keyOf Try.prog 3 (.int .i64 k) = some (.int .i64 k) := Maps.keyOf_int_mk Try.underlying3 h
theorem zero30 (w : World) : (zeroValue 30).run Try.prog w = .ok nilS w := by
  go_simp
theorem map_turn {S : Nat → Prop} {w w' : World} {b n : Nat} {D : DataW Value} (h : w.ownsMap Try.prog 3 rawR b n D) (k : Turn S w w') (hs : ¬ S b) : w'.ownsMap Try.prog 3 rawR b n D := by
  obtain ⟨es, clock, hb, r⟩ := h
  exact ⟨es, clock, (k.block b (blk_lt hb) hs).trans hb, r⟩
theorem run_look {w : World} {b n : Nat} {D : DataW Value} {mv : Value} {k : Int} (h : w.ownsMap Try.prog 3 rawR b n D) (hk : wf k) (hat : D.atKey (.int .i64 k) (.held nilS) = .held mv) :
    (Instr.lookup 43 (.map (some b)) (.int .i64 k) false).run Try.prog w = .ok mv w := by
  obtain ⟨v, ps, hrun, hv⟩ := h.lookup keyed3 Try.underlying43 (zero30 w) (zd := .held nilS) (zp := []) rfl (key3 k hk)
  rw [hat] at hv
  simp [rawR] at hv
  rw [hrun, hv.1]

/-- BOXES: g the block of the struct, F all the blocks that may turn, N a bound on what is in it. -/
structure Box' (w : World) (base g N : Nat) (F : Nat → Prop) (m : Int → List Dv) (all : List Dv) (b : Nat) (va : Value) (mv : Int → Value) (D : DataW Value) : Prop where
  blk : w.heap[g]? = some (.cells #[.map (some b), va] 45 (0, 0))
  map : w.ownsMap Try.prog 3 rawR b N D
  at_ : ∀ k, wf k → D.atKey (.int .i64 k) (.held nilS) = .held (mv k)
  row : ∀ k, Row w base (mv k) (m k)
  arow : Row w base va all
  apart : ∀ k k', k ≠ k' → (mv k).ownBlock = none ∨ (mv k).ownBlock ≠ (mv k').ownBlock
  aapart : ∀ k, (mv k).ownBlock = none ∨ (mv k).ownBlock ≠ va.ownBlock
  hg : base ≤ g
  hb : base ≤ b
  Fg : F g
  Fb : F b
  Fm : ∀ k q, (mv k).ownBlock = some q → F q
  Fa : ∀ q, va.ownBlock = some q → F q
  Fs : ∀ q, F q → base ≤ q
  lm : ∀ k, (m k).length ≤ N
  la : all.length ≤ N
def Box (w : World) (base g N : Nat) (F : Nat → Prop) (m : Int → List Dv) (all : List Dv) : Prop := ∃ b va mv D, Box' w base g N F m all b va mv D

theorem Box'.turn {w w' : World} {base g N : Nat} {F S : Nat → Prop} {m : Int → List Dv} {all : List Dv} {b : Nat} {va : Value} {mv : Int → Value} {D : DataW Value}
    (h : Box' w base g N F m all b va mv D) (k : Turn S w w') (hs : ∀ q, F q → ¬ S q) : Box' w' base g N F m all b va mv D :=
  { h with
    blk := (k.block g (blk_lt h.blk) (hs g h.Fg)).trans h.blk
    map := map_turn h.map k (hs b h.Fb)
    row := fun q => (h.row q).turn k (fun p hp => hs p (h.Fm q p hp))
    arow := h.arow.turn k (fun p hp => hs p (h.Fa p hp)) }
theorem Box.turn {w w' : World} {base g N : Nat} {F S : Nat → Prop} {m : Int → List Dv} {all : List Dv} (h : Box w base g N F m all) (k : Turn S w w') (hs : ∀ q, F q → ¬ S q) : Box w' base g N F m all := by
  obtain ⟨b, va, mv, D, h⟩ := h
  exact ⟨b, va, mv, D, h.turn k hs⟩
theorem Box.below {w w' : World} {base g N : Nat} {F : Nat → Prop} {m : Int → List Dv} {all : List Dv} (h : Box w base g N F m all) (k : Below w.heap.size w w') : Box w' base g N F m all :=
  h.turn (S := fun _ => False) (Turn.of_below k) (fun _ _ h => h)
end Go.Proofs.Ytallbobeehbkoaa.Boxes
