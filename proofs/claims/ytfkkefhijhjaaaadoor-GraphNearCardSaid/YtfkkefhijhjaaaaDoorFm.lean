import Derived.Maps.OwnSet
import Derived.Maps.OwnOps
import Derived.OwnWalk
import Derived.DeepKeys3
import Derived.WalkKit
namespace Go.Proofs.YtfkkefhijhjaaaaDoor.Fm
open Go.RowKit
set_option linter.unusedVariables false
/-- How the keys and the elements of a map are spelled. -/
structure Sp (P : Program) (κ : Type) where
  t : TypeId
  k : TypeId
  e : TypeId
  z : Value
  kv : κ → Value
  kl : κ → Lit
  ok : κ → Prop
  keyed : Maps.Keyed P k
  ht : P.underlying t = some (.map k e)
  hz : ∀ w : World, (zeroValue e).run P w = .ok z w
  key : ∀ x, ok x → keyOf P k (kv x) = some (kl x)
  inj : ∀ x y, ok x → ok y → kl x = kl y → x = y
def rawR (v : Value) : Option (DataW Value × List MemPlace) := some (.held v, [])
variable {P : Program} {κ : Type} {S : Sp P κ} {w w' : World} {b n : Nat} {f : κ → Option Value}
/-- BLOCK b OF w IS A MAP OF n ENTRIES THAT READS AS f. -/
def M (S : Sp P κ) (w : World) (b n : Nat) (f : κ → Option Value) : Prop :=
  ∃ D, w.ownsMap P S.k rawR b n D ∧ Maps.size D = n ∧ ∀ x, S.ok x → Maps.has D (S.kl x) = (f x).isSome ∧ ∀ z, D.atKey (S.kl x) (.held z) = .held ((f x).getD z)
theorem M.lt (h : M S w b n f) : b < w.heap.size := by obtain ⟨D, h, _⟩ := h; exact h.lt
theorem M.at_ (h : M S w b n f) : ∃ es clock, w.heap[b]? = some (.map es clock) := by
  obtain ⟨D, ⟨es, clock, hb, _⟩, _⟩ := h
  exact ⟨es, clock, hb⟩
theorem M.move (h : M S w b n f) (hb : w'.heap[b]? = w.heap[b]?) : M S w' b n f := by
  obtain ⟨D, ⟨es, clock, h1, r⟩, h2⟩ := h
  exact ⟨D, ⟨es, clock, hb.trans h1, r⟩, h2⟩
theorem M.below (h : M S w b n f) (hb : Below w.heap.size w w') : M S w' b n f := h.move (hb.block b h.lt)
theorem M.ne_cells (h : M S w b n f) {g : Nat} {cells : Array Value} {t : TypeId} {fr : Nat × Nat} (hg : w.heap[g]? = some (.cells cells t fr)) : b ≠ g := by
  rintro rfl
  obtain ⟨es, clock, hb⟩ := h.at_
  rw [hb] at hg
  cases hg
theorem M.new (w : World) : M S (w.alloc (.map #[] 0)) w.heap.size 0 (fun _ => none) :=
  ⟨.map [], World.ownsMap_made _ _ _ _, rfl, fun x _ => ⟨rfl, fun z => rfl⟩⟩
theorem M.look (h : M S w b n f) {x : κ} (hx : S.ok x) : (Instr.lookup S.t (.map (some b)) (S.kv x) false).run P w = .ok ((f x).getD S.z) w := by
  obtain ⟨D, ho, _, hf⟩ := h
  obtain ⟨v, ps, hr, hv⟩ := ho.lookup S.keyed S.ht (S.hz w) (zd := .held S.z) (zp := []) rfl (S.key x hx)
  rw [(hf x hx).2] at hv
  simp only [rawR, Option.some.injEq, Prod.mk.injEq, DataW.held.injEq] at hv
  rw [hr, hv.1]
theorem M.look_ok (h : M S w b n f) {x : κ} (hx : S.ok x) : (Instr.lookup S.t (.map (some b)) (S.kv x) true).run P w = .ok (.tuple #[(f x).getD S.z, .bool (f x).isSome]) w := by
  obtain ⟨D, ho, _, hf⟩ := h
  obtain ⟨v, ps, hr, hv⟩ := ho.look_ok S.keyed S.ht (S.hz w) (zd := .held S.z) (zp := []) rfl (S.key x hx)
  rw [(hf x hx).2] at hv
  simp only [rawR, Option.some.injEq, Prod.mk.injEq, DataW.held.injEq] at hv
  rw [hr, hv.1, (hf x hx).1]
theorem M.len (h : M S w b n f) (ty : TypeId) : (Builtin.len_ #[S.t] ty #[.map (some b)]).run P w = .ok (.int .i64 n) w := by
  obtain ⟨D, ho, hn, _⟩ := h
  rw [ho.len S.ht ty, hn]
open Classical in
noncomputable def upd (f : κ → Option Value) (x : κ) (v : Value) : κ → Option Value := fun y => if y = x then some v else f y
theorem upd_same (f : κ → Option Value) (x : κ) (v : Value) : upd f x v x = some v := by simp [upd]
theorem upd_other (f : κ → Option Value) {x y : κ} (v : Value) (h : y ≠ x) : upd f x v y = f y := by simp [upd, h]
theorem M.store (h : M S w b n f) {x : κ} (hx : S.ok x) (v : Value) (hn : n < maxLen) :
    ∃ w', (Instr.mapUpdate S.t (.map (some b)) (S.kv x) v).run P w = .ok () w' ∧ M S w' b (if (f x).isSome then n else n + 1) (upd f x v) ∧ w.mapTurned w' b := by
  obtain ⟨D, ho, hn', hf⟩ := h
  obtain ⟨w', hr, ho', ht⟩ := ho.store S.keyed S.ht hn (S.key x hx) (val := v) (d := .held v) (ps := []) rfl
  have hsz : Maps.size (D.put (S.kl x) (.held v)) = if (f x).isSome then n else n + 1 := by
    rw [Maps.size_put (ho.tidy S.keyed), (hf x hx).1, hn']
  have hK : WideAt.IsKeyLit (S.kl x) := S.keyed.key (S.key x hx)
  refine ⟨w', hr, ⟨D.put (S.kl x) (.held v), ?_, hsz, fun y hy => ?_⟩, ht⟩
  · obtain ⟨es, clock, hb, F, hs, e⟩ := ho'
    refine ⟨es, clock, hb, F, ?_, e⟩
    rw [← hsz, e, Maps.size_eq, length_sorted]
    simp
  · by_cases e : y = x
    · subst e
      rw [upd_same]
      exact ⟨Maps.has_put_same ho.isMap hK _, fun z => Maps.atKey_put_same ho.isMap hK _ _⟩
    · have hne : S.kl y ≠ S.kl x := fun h => e (S.inj y x hy hx h)
      rw [upd_other f v e, Maps.has_put_other hne]
      exact ⟨(hf y hy).1, fun z => by rw [Maps.atKey_put_other hne]; exact (hf y hy).2 z⟩
section
variable {ops : Array Oper} {rest : List Oper} {o : Oper} {a : Act} {Q : Exit → Act → World → Prop}
theorem wp_store (S : Sp P κ) (hg : o.guard = none) (m x v : Operand) (hop : o.op = Op.mapUpdate S.t m x v)
    (b n : Nat) (f : κ → Option Value) (hm : a.eval m = .map (some b)) (hM : M S w b n f) (hn : n < maxLen) (xx : κ) (hxx : S.ok xx) (val : Value) (hx : a.eval x = S.kv xx) (hv : a.eval v = val)
    (hK : ∀ w', M S w' b (if (f xx).isSome then n else n + 1) (upd f xx val) → w.mapTurned w' b → wpList P ops Q rest (a.put o.dst undef) w') :
    wpList P ops Q (o :: rest) a w := by
  refine wpList_plain hg fun K' hK' => ?_
  obtain ⟨w', hrun, r1, r2⟩ := hM.store hxx val hn
  unfold Oper.wp
  simp [execOp, hop, hm, hx, hv, hrun, Result.andThen]
  exact hK' _ _ (hK w' r1 r2)
end
/-- ints. -/
def intSp (P : Program) (t k e : TypeId) (hk : P.underlying k = some (.int .i64)) (ht : P.underlying t = some (.map k e)) (z : Value) (hz : ∀ w : World, (zeroValue e).run P w = .ok z w) : Sp P Int where
  t := t
  k := k
  e := e
  z := z
  kv x := .int .i64 x
  kl x := .int .i64 x
  ok x := (Lit.int .i64 x).wf = true
  keyed := Maps.int_keyed hk
  ht := ht
  hz := hz
  key x hx := Maps.keyOf_int_mk hk hx
  inj x y _ _ h := by injection h
theorem wf_int {x : Int} (h0 : -9223372036854775808 ≤ x) (h1 : x ≤ 9223372036854775807) : (Lit.int .i64 x).wf = true := by
  simp only [Lit.wf, Bool.and_eq_true, decide_eq_true_eq]
  exact ⟨h0, h1⟩
/-- pairs of ints: '[2]int'. -/
theorem keyOf_pair {k e : TypeId} (hk : P.underlying k = some (.array 2 e)) (he : P.underlying e = some (.int .i64)) (hkt : P.keyType k = true) (hc : P.cellsOf k = 2) (hce : P.cellsOf e = 1) (hp : Nat.blt 0 P.types.size = true) {a b : Int} (ha : (Lit.int .i64 a).wf = true) (hb : (Lit.int .i64 b).wf = true) :
    keyOf P k (.agg #[.int .i64 a, .int .i64 b]) = some (.string (keyBytes [.int .i64 a, .int .i64 b])) := by
  obtain ⟨m, hs⟩ : ∃ m, P.types.size = m + 1 := ⟨P.types.size - 1, by rw [Nat.blt_eq] at hp; omega⟩
  have h1 : ∀ x : Int, (Lit.int .i64 x).wf = true → P.keyLits P.types.size e [.int .i64 x] = some [.int .i64 x] := by
    intro x hx
    rw [hs]
    unfold Program.keyLits
    rw [he]
    simp [hx]
  have h2 : P.keyLits (P.types.size + 1) k [.int .i64 a, .int .i64 b] = some [.int .i64 a, .int .i64 b] := by
    unfold Program.keyLits
    rw [hk]
    simp only [List.length_cons, List.length_nil, hc, if_true, hce]
    have e0 : P.keyLits P.types.size e ((([Value.int .i64 a, Value.int .i64 b] : List Value).drop (0 * 1)).take 1) = some [.int .i64 a] := h1 a ha
    have e1 : P.keyLits P.types.size e ((([Value.int .i64 a, Value.int .i64 b] : List Value).drop (1 * 1)).take 1) = some [.int .i64 b] := h1 b hb
    rw [show List.range 2 = [0, 1] from rfl]
    simp only [List.mapM_cons, List.mapM_nil, e0, e1]
    rfl
  have h3 : (Value.agg #[.int .i64 a, .int .i64 b]).formed P k = true := by
    unfold Value.formed
    rw [hk]
    simp [hc]
  unfold keyOf
  rw [hk]
  simp only [hkt, h3, Bool.and_self, if_true]
  rw [show (Value.agg #[Value.int .i64 a, Value.int .i64 b]).cells.toList = [.int .i64 a, .int .i64 b] from rfl, h2]
  rfl
def pairSp (P : Program) (t k e i : TypeId) (hk : P.underlying k = some (.array 2 i)) (hi : P.underlying i = some (.int .i64)) (hkt : P.keyType k = true) (hc : P.cellsOf k = 2) (hci : P.cellsOf i = 1) (hs : Nat.blt 0 P.types.size = true) (h3 : P.keyTypeAt 3 k = true) (htl : P.tiled 3 k = true)
    (ht : P.underlying t = some (.map k e)) (z : Value) (hz : ∀ w : World, (zeroValue e).run P w = .ok z w) : Sp P (Int × Int) where
  t := t
  k := k
  e := e
  z := z
  kv x := .agg #[.int .i64 x.1, .int .i64 x.2]
  kl x := .string (keyBytes [.int .i64 x.1, .int .i64 x.2])
  ok x := (Lit.int .i64 x.1).wf = true ∧ (Lit.int .i64 x.2).wf = true
  keyed := Maps.Keyed.of_law (deep_law (m := 3) (by omega) h3 htl (by rw [hk]))
  ht := ht
  hz := hz
  key x hx := keyOf_pair hk hi hkt hc hci hs hx.1 hx.2
  inj x y hx hy h := by
    have e1 := keyOf_pair hk hi hkt hc hci hs hx.1 hx.2
    have e2 := keyOf_pair hk hi hkt hc hci hs hy.1 hy.2
    rw [← h] at e2
    have := (Maps.Keyed.of_law (deep_law (m := 3) (P := P) (k := k) (by omega) h3 htl (by rw [hk]))).inj e1 e2
    simp only [Value.agg.injEq, Array.mk.injEq, List.cons.injEq, Value.int.injEq, and_true, true_and] at this
    exact Prod.ext this.1 this.2
theorem turned_below {base : Nat} {w0 : World} (hB : Below base w0 w) (h : w.mapTurned w' b) (hb : base ≤ b) (hs : base ≤ w.heap.size) : Below base w0 w' :=
  hB.grown h.grown hs (fun k hk => by cases hk; exact hb)
theorem turned_block (h : w.mapTurned w' b) {g : Nat} (hg : g ≠ b) : w'.heap[g]? = w.heap[g]? := by
  obtain ⟨es, clock, es', clock', hb, rfl⟩ := h
  exact ChangeMaps.heap_setBlock_other hb _ hg
theorem turned_size (h : w.mapTurned w' b) : w'.heap.size = w.heap.size := by
  obtain ⟨es, clock, es', clock', hb, rfl⟩ := h
  simp [ChangeMaps.setBlock]
end Go.Proofs.YtfkkefhijhjaaaaDoor.Fm
