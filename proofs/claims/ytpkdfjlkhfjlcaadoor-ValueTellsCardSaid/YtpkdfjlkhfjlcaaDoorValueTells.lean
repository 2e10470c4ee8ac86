/-
  ValueTells returns true for every value of its parameters; the arguments read behind the call as they read before. No condition but the form's own and the three tables, as their initialisers lay them.
-/
import Derived.Test.YtpkdfjlkhfjlcaaDoorRows
import Derived.Test.YtpkdfjlkhfjlcaaDoorCards
import Derived.Test.YtpkdfjlkhfjlcaaDoorTie
import Derived.Test.YtpkdfjlkhfjlcaaDoorVaY
import Derived.ChangeSame
import Derived.ChangeVars
import Derived.JoinedOf
import Derived.RowKit
import Derived.RowKitTokens
import Derived.LaidLaws
import Derived.LaidHandle
import Derived.LaidSub
import Derived.Lib.LaidTab
import Derived.Lib.SmallJoins
import Derived.Stop.Joined
import Derived.SevenTiedAt
import Derived.WalkKit
import Derived.ProofKit
import Derived.OpenShut
import Derived.ShutString
import Derived.ChangeOld
import Derived.Below
import Derived.SizedLaws
namespace Go.Proofs.YtpkdfjlkhfjlcaaDoor.valueTells
open Go.ChangeShapes Go.WideShapes Go.ChangeAt Go.RowKit
open Go.ChangeMaps (open_string shut_string)
set_option linter.unusedVariables false
theorem own : ownKnob Tryd.prog.godebug = none := by kernel_rfl
theorem laidOut : laidOutB Tryd.prog = true := by kernel_rfl
/-- What the condition on the tables gives. -/
theorem tab_of {W : World} (h : laidMetH Tryd.prog Rows.valueTellsRow.laid W) : Val.Tab W := by
  have h1 : laidMet Tryd.prog Rows.valueTellsRow.laid W := (laidMetH_iff.1 h).1
  have h2 := laidMet.filter (fun x => x.1 == "internal/strconv.uint64pow10") h1
  exact Go.Lib.tabIs_of_head (P := Tryd.prog) (name := "internal/strconv.uint64pow10") (k := .u64) (zs := Go.Lib.pow10Tab) (rest := []) (t := 148) (e := 126) (n := 20) (g := 1) (by kernel_rfl) (by kernel_rfl) (by kernel_rfl) (by kernel_rfl) (by kernel_rfl) (by kernel_rfl) h2

section
variable {H : Type} {enc : TypeId × Value → H} {w : World} {base : Nat} {spare : Nat → Bool} {held : Bool}
set_option maxRecDepth 100000 in
theorem open_v {r : Reach} {b0 : Nat} {v : Value} {d : DataW H} {ps : List MemPlace} (hval : Value.okWide Tryd.prog w r b0 51 v) (hd : DataW.Trod enc Tryd.prog w base spare held 51 v d ps) :
    ∃ a b c, v = .agg #[.bool a, .int .i64 b, .string c] ∧ d = .agg [.lit (.bool a), .lit (.int .i64 b), .lit (.string c.data.toList)] ∧ ps = [] ∧ (Lit.int .i64 b).wf = true ∧ c.size ≤ maxLen := by
  obtain ⟨u, x, t, y0, y1, y2, n0, rfl, hd2, hp2, g0, g1, g2⟩ := Go.Joins.open_agg3 Tryd.underlying51 (by kernel_rfl) (by kernel_rfl) hval hd
  obtain ⟨a, e0, rfl⟩ := DataW.trod_bool Tryd.underlying4 g0
  obtain ⟨b, e1, rfl, wb⟩ := DataW.trod_int Tryd.underlying3 g1
  obtain ⟨c, e2, rfl, wc⟩ := DataW.trod_string Tryd.underlying9 g2
  simp only [List.cons.injEq, and_true] at e0 e1 e2
  subst e0 e1 e2
  exact ⟨a, b, c, rfl, hd2, hp2, wb, wc⟩
set_option maxRecDepth 100000 in
theorem shut_v {a : Bool} {b : Int} {c : ByteArray} (wb : (Lit.int .i64 b).wf = true) (wc : c.size ≤ maxLen) :
    DataW.Trod enc Tryd.prog w base spare held 51 (.agg #[.bool a, .int .i64 b, .string c]) (.agg [.lit (.bool a), .lit (.int .i64 b), .lit (.string c.data.toList)]) [] :=
  Go.Joins.shut_agg3 (y0 := (.lit (.bool a), [])) (y1 := (.lit (.int .i64 b), [])) (y2 := (.lit (.string c.data.toList), [])) Tryd.underlying51 (by kernel_rfl) (by kernel_rfl) ⟨1, by simp [DataW.trod, Tryd.underlying4]⟩ ⟨1, by simp [DataW.trod, Tryd.underlying3, wb]⟩ ⟨1, by simp [DataW.trod, Tryd.underlying9, wc]⟩
end
def cellsOf : DataW Unit → Array Value
  | .agg l => (l.map fun | .lit (.int k n) => .int k n | _ => undef).toArray
  | _ => #[]
def setBlk (w : World) (g : Nat) (cs : Array Value) : World :=
  { w with heap := w.heap.modify g fun
      | .cells _ t frozen => .cells cs t frozen
      | o => o }
/-- A world that meets the condition: the settled one, the three tables laid. -/
noncomputable def laidWorld (os : Os) : World :=
  setBlk (setBlk (setBlk (World.holding Tryd.prog os ⟨#[], #[], []⟩) 1 (cellsOf Rows.laid_internal_strconv_uint64pow10)) 2 (cellsOf Rows.laid_math_bits_deBruijn32tab)) 3 (cellsOf Rows.laid_math_bits_deBruijn64tab)
theorem laidWorld_met (os : Os) (args : Array Value) : laidMetH Tryd.prog Rows.valueTellsRow.laid ((laidWorld os).forCall (fun _ _ => 0) ⟨#[], args, []⟩).memory := by
  refine laidMetH_iff.2 ⟨?_, fun x hx => by cases hx⟩
  show laidMet Tryd.prog Rows.valueTellsRow.laid _
  exact laidMet_of_run' 8 (by kernel_rfl) (by kernel_rfl)
set_option maxRecDepth 100000 in
theorem lifted (os : Os) (started : os.Started) (H : Type) (enc : TypeId × Value → H) :
    ReturnsInHanded {} Tryd.checked os 8 .any (fun w args => (Rows.valueTellsSpec.pre enc Tryd.prog Tryd.f8 [] false w args ∧ laidMetH Tryd.prog Rows.valueTellsRow.laid w) ∧ sizedMet enc Tryd.prog Tryd.f8 (OpenSpec.ofChange Rows.valueTellsSpec) false w args)
      (Rows.valueTellsSpec.post enc Tryd.prog Tryd.f8 false true false false) := by
  refine returnsInHanded_of_change_and (C := Tryd.checked) (X := fun w _ => laidMetH Tryd.prog Rows.valueTellsRow.laid w) (fun _ _ _ hh h => h.of_heap hh) own started (by kernel_rfl) Tryd.func8
    (ChangeSpec.witness_at (enc := enc) (C := Tryd.checked) (os := os) (X := fun w _ => laidMetH Tryd.prog Rows.valueTellsRow.laid w) false (laidWorld os) #[.agg #[.bool false, .int .i64 0, .string ⟨#[]⟩], .agg #[.bool false, .int .i64 0, .string ⟨#[]⟩], .int .i64 0, .string ⟨#[]⟩] 8 rfl (by kernel_rfl) (by kernel_rfl) (by kernel_rfl) (by kernel_rfl) (by kernel_rfl) (laidWorld_met os _)) ?_
  intro W base args ds gs before hval0 hW hcnd hsz0 hL _
  have hsz : (DataW.weightsEach Tryd.prog (Tryd.f8.params.toList ++ Rows.valueTellsSpec.plain.varTypes Tryd.prog) (ds ++ gs)).all (· ≤ reachBytes) = true := hsz0
  have hval : ∀ (j : Nat) t v, Tryd.f8.params[j]? = some t → args[j]? = some v → Value.okWide Tryd.prog W .any base t v := hval0
  have hW' := hW
  obtain ⟨p, q, hA0, hV, rfl, hfz, hnd⟩ := hW
  have hA : DataW.TrodAll enc Tryd.prog W 0 (fun _ => true) true Tryd.f8.params.toList args.toList ds p := hA0
  rw [Tryd.params8] at hA hval hsz
  obtain ⟨v0, vs0, d0, ds0, p0, q0, hargs, rfl, rfl, h0, r0⟩ := trodAll_cons hA
  obtain ⟨v1, vs1, d1, ds1, p1, q1, rfl, rfl, rfl, h1, r1⟩ := trodAll_cons r0
  obtain ⟨v2, vs2, d2, ds2, p2, q2, rfl, rfl, rfl, h2, r2⟩ := trodAll_cons r1
  obtain ⟨v3, vs3, d3, ds3, p3, q3, rfl, rfl, rfl, h3, r3⟩ := trodAll_cons r2
  obtain ⟨rfl, rfl, rfl⟩ := trodAll_nil r3
  obtain rfl : args = #[v0, v1, v2, v3] := by cases args; simp_all
  obtain ⟨rfl, rfl⟩ := trodVars_none hV
  obtain ⟨a0, b0, c0, rfl, rfl, rfl, w0, z0⟩ := open_v (hval 0 51 v0 rfl rfl) h0
  obtain ⟨a1, b1, c1, rfl, rfl, rfl, w1, z1⟩ := open_v (hval 1 51 v1 rfl rfl) h1
  obtain ⟨a2, rfl, rfl, rfl, w2⟩ := open_int Tryd.underlying3 (hval 2 3 v2 rfl rfl) h2
  obtain ⟨a3, rfl, rfl, rfl, w3⟩ := open_string Tryd.underlying9 (hval 3 9 v3 rfl rfl) h3
  have HT := tab_of hL
  clear hA0 hval0 hsz0 hsz
  refine (MVal.tells_calls a0 b0 c0 a1 b1 c1 a2 a3 W ⟨HT⟩ (Go.bounds_i64 w0) (Go.bounds_i64 w1)).mono fun e W' ⟨he, bel⟩ => ?_
  subst he
  exact ⟨_, rfl, _, _, _, [], _, [], hW', trodAll_mk1 (shut_bool Tryd.underlying4 _), (trodAll_cons_mk (shut_v w0 z0) (trodAll_cons_mk (shut_v w1 z1) (trodAll_cons_mk (shut_int Tryd.underlying3 w2) (trodAll_cons_mk (shut_string Tryd.underlying9 w3) trodAll_mk0)))), rfl, bel.frame _, fun h => by cases h⟩
theorem over : Rows.valueTellsRow.holds Tryd.pinned (OpenSpec.ofChange Rows.valueTellsSpec) :=
  OpenClaim.holds_of_wide 8 Tryd.f8 rfl rfl rfl rfl rfl rfl rfl ⟨rfl, rfl, rfl, rfl, rfl⟩ rfl rfl rfl rfl rfl (by kernel_rfl) Tryd.func8 (by kernel_rfl)
    (of_decide_eq_true (by kernel_rfl)) (by unfold Func.isWrapper; first | (rw [if_pos (by decide +kernel)]; kernel_rfl) | (rw [if_neg (by decide +kernel)]; exact ⟨rfl, rfl⟩))
    (fun os started H enc _ => lifted os started H enc)
theorem card : Rows.ValueTellsCardSaid :=
  Claim7.holds_tied_plain_at .later [] [.data, .data, .data] true (true, "594ae818ccf45da5ee6755f6fe15fe008c78c81a88d5f6042142cec4b75566ae") true
    over (fun _ h => by cases h) (by kernel_rfl) (fun _ h => by cases h) valueTells_row_tie rfl ⟨rfl, rfl⟩ (by kernel_rfl) rfl
    (fun f fn hf hfn => by
      obtain rfl : f = 8 := Option.some.inj ((show Tryd.prog.funcNamed "broadside/broadsidelaw2.ValueTells" = some 8 by kernel_rfl).symm.trans hf) |>.symm
      obtain rfl : fn = Tryd.f8 := (Option.some.inj (Tryd.func8.symm.trans hfn)).symm
      exact ⟨by kernel_rfl, fun j t ht => by
        rw [Tryd.params8] at ht
        cases j with
        | zero => simp at ht; subst ht; kernel_rfl
        | succ j =>
          cases j with
          | zero => simp at ht; subst ht; kernel_rfl
          | succ j =>
            cases j with
            | zero => simp at ht; subst ht; kernel_rfl
            | succ j =>
              cases j with
              | zero => simp at ht; subst ht; kernel_rfl
              | succ j =>
                simp at ht⟩)
    (by kernel_rfl)
#print axioms card
end Go.Proofs.YtpkdfjlkhfjlcaaDoor.valueTells
namespace Go.Proofs.YtpkdfjlkhfjlcaaDoor
/-- The card, under a short name, for the claim. -/
theorem valueTells_holds : Rows.ValueTellsCardSaid := valueTells.card
end Go.Proofs.YtpkdfjlkhfjlcaaDoor
