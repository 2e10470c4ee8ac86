/-
  ValueSorts returns true for every value of its parameters; the arguments read behind the call as they read before. No condition but the form's own and the three tables, as their initialisers lay them.
-/
import Derived.Test.YtpkdfjlkhfjlcaaDoorRows
import Derived.Test.YtpkdfjlkhfjlcaaDoorCards
import Derived.Test.YtpkdfjlkhfjlcaaDoorTie
import Derived.Test.YtpkdfjlkhfjlcaaDoorVaZ2
import Derived.ChangeSame
import Derived.ChangeVars
import Derived.JoinedOf
import Derived.RowKit
import Derived.RowKitTokens
import Derived.LaidLaws
import Derived.LaidHandle
import Derived.LaidSub
import Derived.Lib.LaidTab
import Derived.Lib.SmallJoins
import Derived.Stop.Joined
import Derived.SevenTiedAt
import Derived.WalkKit
import Derived.ProofKit
import Derived.OpenShut
import Derived.ShutString
import Derived.ChangeOld
import Derived.Below
import Derived.SizedLaws
namespace Go.Proofs.YtpkdfjlkhfjlcaaDoor.valueSorts
open Go.ChangeShapes Go.WideShapes Go.ChangeAt Go.RowKit
open Go.Proofs.YtpkdfjlkhfjlcaaDoorW
open Go.ChangeMaps (open_string shut_string)
set_option linter.unusedVariables false
theorem own : ownKnob Tryd.prog.godebug = none := by kernel_rfl
theorem laidOut : laidOutB Tryd.prog = true := by kernel_rfl
/-- What the condition on the tables gives. -/
theorem tab_of {W : World} (h : laidMetH Tryd.prog Rows.valueSortsRow.laid W) : Val.Tab W := by
  have h1 : laidMet Tryd.prog Rows.valueSortsRow.laid W := (laidMetH_iff.1 h).1
  have h2 := laidMet.filter (fun x => x.1 == "internal/strconv.uint64pow10") h1
  exact Go.Lib.tabIs_of_head (P := Tryd.prog) (name := "internal/strconv.uint64pow10") (k := .u64) (zs := Go.Lib.pow10Tab) (rest := []) (t := 148) (e := 126) (n := 20) (g := 1) (by kernel_rfl) (by kernel_rfl) (by kernel_rfl) (by kernel_rfl) (by kernel_rfl) (by kernel_rfl) h2

section
variable {H : Type} {enc : TypeId × Value → H} {w : World} {base : Nat} {spare : Nat → Bool} {held : Bool}
set_option maxRecDepth 100000 in
theorem open_v {r : Reach} {b0 : Nat} {v : Value} {d : DataW H} {ps : List MemPlace} (hval : Value.okWide Tryd.prog w r b0 51 v) (hd : DataW.Trod enc Tryd.prog w base spare held 51 v d ps) :
    ∃ a b c, v = .agg #[.bool a, .int .i64 b, .string c] ∧ d = .agg [.lit (.bool a), .lit (.int .i64 b), .lit (.string c.data.toList)] ∧ ps = [] ∧ (Lit.int .i64 b).wf = true ∧ c.size ≤ maxLen := by
  obtain ⟨u, x, t, y0, y1, y2, n0, rfl, hd2, hp2, g0, g1, g2⟩ := Go.Joins.open_agg3 Tryd.underlying51 (by kernel_rfl) (by kernel_rfl) hval hd
  obtain ⟨a, e0, rfl⟩ := DataW.trod_bool Tryd.underlying4 g0
  obtain ⟨b, e1, rfl, wb⟩ := DataW.trod_int Tryd.underlying3 g1
  obtain ⟨c, e2, rfl, wc⟩ := DataW.trod_string Tryd.underlying9 g2
  simp only [List.cons.injEq, and_true] at e0 e1 e2
  subst e0 e1 e2
  exact ⟨a, b, c, rfl, hd2, hp2, wb, wc⟩
set_option maxRecDepth 100000 in
theorem shut_v {a : Bool} {b : Int} {c : ByteArray} (wb : (Lit.int .i64 b).wf = true) (wc : c.size ≤ maxLen) :
    DataW.Trod enc Tryd.prog w base spare held 51 (.agg #[.bool a, .int .i64 b, .string c]) (.agg [.lit (.bool a), .lit (.int .i64 b), .lit (.string c.data.toList)]) [] :=
  Go.Joins.shut_agg3 (y0 := (.lit (.bool a), [])) (y1 := (.lit (.int .i64 b), [])) (y2 := (.lit (.string c.data.toList), [])) Tryd.underlying51 (by kernel_rfl) (by kernel_rfl) ⟨1, by simp [DataW.trod, Tryd.underlying4]⟩ ⟨1, by simp [DataW.trod, Tryd.underlying3, wb]⟩ ⟨1, by simp [DataW.trod, Tryd.underlying9, wc]⟩
end
def IsRow (k : IntKind) (w : World) (a : Option Addr) (len cap : Nat) (zs : List Int) : Prop :=
  (a = none ∧ len = 0 ∧ cap = 0 ∧ zs = []) ∨
  ∃ x, a = some x ∧ len ≤ cap ∧ cap ≤ maxLen ∧ zs.length = cap ∧ (∀ i, i < zs.length → w.cell? (x.add i) = some (.int k (zs.getD i 0))) ∧ ∀ n ∈ zs, (Lit.int k n).wf = true
def cellsOf : DataW Unit → Array Value
  | .agg l => (l.map fun | .lit (.int k n) => .int k n | _ => undef).toArray
  | _ => #[]
def setBlk (w : World) (g : Nat) (cs : Array Value) : World :=
  { w with heap := w.heap.modify g fun
      | .cells _ t frozen => .cells cs t frozen
      | o => o }
/-- A world that meets the condition: the settled one, the three tables laid. -/
noncomputable def laidWorld (os : Os) : World :=
  setBlk (setBlk (setBlk (World.holding Tryd.prog os ⟨#[], #[], []⟩) 1 (cellsOf Rows.laid_internal_strconv_uint64pow10)) 2 (cellsOf Rows.laid_math_bits_deBruijn32tab)) 3 (cellsOf Rows.laid_math_bits_deBruijn64tab)
theorem laidWorld_met (os : Os) (args : Array Value) : laidMetH Tryd.prog Rows.valueSortsRow.laid ((laidWorld os).forCall (fun _ _ => 0) ⟨#[], args, []⟩).memory := by
  refine laidMetH_iff.2 ⟨?_, fun x hx => by cases hx⟩
  show laidMet Tryd.prog Rows.valueSortsRow.laid _
  exact laidMet_of_run' 8 (by kernel_rfl) (by kernel_rfl)
set_option maxRecDepth 100000 in
theorem lifted (os : Os) (started : os.Started) (H : Type) (enc : TypeId × Value → H) :
    ReturnsInHanded {} Tryd.checked os 10 .any (fun w args => (Rows.valueSortsSpec.pre enc Tryd.prog Tryd.f10 [] false w args ∧ laidMetH Tryd.prog Rows.valueSortsRow.laid w) ∧ sizedMet enc Tryd.prog Tryd.f10 (OpenSpec.ofChange Rows.valueSortsSpec) false w args)
      (Rows.valueSortsSpec.post enc Tryd.prog Tryd.f10 false true false false) := by
  refine returnsInHanded_of_change_and (C := Tryd.checked) (X := fun w _ => laidMetH Tryd.prog Rows.valueSortsRow.laid w) (fun _ _ _ hh h => h.of_heap hh) own started (by kernel_rfl) Tryd.func10
    (ChangeSpec.witness_at (enc := enc) (C := Tryd.checked) (os := os) (X := fun w _ => laidMetH Tryd.prog Rows.valueSortsRow.laid w) false (laidWorld os) #[.slice none 0 0] 8 rfl (by kernel_rfl) (by kernel_rfl) (by kernel_rfl) (by kernel_rfl) (by kernel_rfl) (laidWorld_met os _)) ?_
  intro W base args ds gs before hval0 hW hcnd hsz0 hL _
  have hsz : (DataW.weightsEach Tryd.prog (Tryd.f10.params.toList ++ Rows.valueSortsSpec.plain.varTypes Tryd.prog) (ds ++ gs)).all (· ≤ reachBytes) = true := hsz0
  have hval : ∀ (j : Nat) t v, Tryd.f10.params[j]? = some t → args[j]? = some v → Value.okWide Tryd.prog W .any base t v := hval0
  have hW' := hW
  obtain ⟨p, q, hA0, hV, rfl, hfz, hnd⟩ := hW
  have hA : DataW.TrodAll enc Tryd.prog W 0 (fun _ => true) true Tryd.f10.params.toList args.toList ds p := hA0
  rw [Tryd.params10] at hA hval hsz
  obtain ⟨v0, d0, rfl, rfl, h0⟩ := trodAll_one hA
  obtain ⟨rfl, rfl⟩ := trodVars_none hV
  obtain ⟨A0, len0, cap0, rfl⟩ := okWide_slice Tryd.underlying34 (hval 0 34 v0 rfl rfl)
  have k0 := h0
  have lt0 : ∀ x ∈ p, x.block < W.heap.size := by obtain ⟨m, hm⟩ := k0; exact DataW.trod_lt m _ _ _ hm
  obtain ⟨z0, w0⟩ : ∃ zs, IsRow .i64 W A0 len0 cap0 zs := by
    obtain ⟨fuel, hf⟩ := h0
    rcases open_ints Tryd.underlying34 Tryd.underlying3 (by kernel_rfl) hf with ⟨hcs, _⟩ | ⟨x, l, c, zs, hcs, _, hl, hm, hz, _, hcell, hwz⟩
    · simp [Value.cells] at hcs
      obtain ⟨rfl, rfl, rfl⟩ := hcs
      exact ⟨[], .inl ⟨rfl, rfl, rfl, rfl⟩⟩
    · simp [Value.cells] at hcs
      obtain ⟨rfl, rfl, rfl⟩ := hcs
      exact ⟨zs, .inr ⟨_, rfl, hl, hm, by simpa using hz, hcell, hwz⟩⟩
  obtain ⟨l0, rfl, hr0, hm0, hw0, hc0⟩ := PrintWords.ReadsInt.ofRowC w0
  have HT := tab_of hL
  clear hA0 hval0 hsz0 hsz
  refine (MVal.sorts_calls A0 cap0 l0 W ⟨HT⟩ hr0).mono fun e W' ⟨he, bel⟩ => ?_
  subst he
  exact ⟨_, rfl, _, _, _, [], _, [], hW', trodAll_mk1 (shut_bool Tryd.underlying4 _), trodAll_mk1 (Below.trod laidOut (by kernel_rfl) (of_decide_eq_true (by kernel_rfl)) k0 bel lt0), rfl, bel.frame _, fun h => by cases h⟩
theorem over : Rows.valueSortsRow.holds Tryd.pinned (OpenSpec.ofChange Rows.valueSortsSpec) :=
  OpenClaim.holds_of_wide 10 Tryd.f10 rfl rfl rfl rfl rfl rfl rfl ⟨rfl, rfl, rfl, rfl, rfl⟩ rfl rfl rfl rfl rfl (by kernel_rfl) Tryd.func10 (by kernel_rfl)
    (of_decide_eq_true (by kernel_rfl)) (by unfold Func.isWrapper; first | (rw [if_pos (by decide +kernel)]; kernel_rfl) | (rw [if_neg (by decide +kernel)]; exact ⟨rfl, rfl⟩))
    (fun os started H enc _ => lifted os started H enc)
theorem card : Rows.ValueSortsCardSaid :=
  Claim7.holds_tied_plain_at .later [] [.data, .data, .data] true (true, "594ae818ccf45da5ee6755f6fe15fe008c78c81a88d5f6042142cec4b75566ae") true
    over (fun _ h => by cases h) (by kernel_rfl) (fun _ h => by cases h) valueSorts_row_tie rfl ⟨rfl, rfl⟩ (by kernel_rfl) rfl
    (fun f fn hf hfn => by
      obtain rfl : f = 10 := Option.some.inj ((show Tryd.prog.funcNamed "broadside/broadsidelaw2.ValueSorts" = some 10 by kernel_rfl).symm.trans hf) |>.symm
      obtain rfl : fn = Tryd.f10 := (Option.some.inj (Tryd.func10.symm.trans hfn)).symm
      exact ⟨by kernel_rfl, fun j t ht => by
        rw [Tryd.params10] at ht
        cases j with
        | zero => simp at ht; subst ht; kernel_rfl
        | succ j =>
          simp at ht⟩)
    (by kernel_rfl)
#print axioms card
end Go.Proofs.YtpkdfjlkhfjlcaaDoor.valueSorts
namespace Go.Proofs.YtpkdfjlkhfjlcaaDoor
/-- The card, under a short name, for the claim. -/
theorem valueSorts_holds : Rows.ValueSortsCardSaid := valueSorts.card
end Go.Proofs.YtpkdfjlkhfjlcaaDoor
