/-
  ValueSays returns true for every value of its parameters; the arguments read behind the call as they read before. No condition but the form's own and the three tables, as their initialisers lay them.
-/
import Derived.Test.YtpkdfjlkhfjlcaaDoorRows
import Derived.Test.YtpkdfjlkhfjlcaaDoorCards
import Derived.Test.YtpkdfjlkhfjlcaaDoorTie
import Derived.Test.YtpkdfjlkhfjlcaaDoorVaU
import Derived.ChangeSame
import Derived.ChangeVars
import Derived.JoinedOf
import Derived.RowKit
import Derived.RowKitTokens
import Derived.LaidLaws
import Derived.LaidHandle
import Derived.LaidSub
import Derived.Lib.LaidTab
import Derived.Lib.SmallJoins
import Derived.Stop.Joined
import Derived.SevenTiedAt
import Derived.WalkKit
import Derived.ProofKit
import Derived.OpenShut
import Derived.ShutString
import Derived.ChangeOld
import Derived.Below
import Derived.SizedLaws
namespace Go.Proofs.YtpkdfjlkhfjlcaaDoor.valueSays
open Go.ChangeShapes Go.WideShapes Go.ChangeAt Go.RowKit
open Go.ChangeMaps (open_string shut_string)
set_option linter.unusedVariables false
theorem own : ownKnob Tryd.prog.godebug = none := by kernel_rfl
theorem laidOut : laidOutB Tryd.prog = true := by kernel_rfl
/-- What the condition on the tables gives. -/
theorem tab_of {W : World} (h : laidMetH Tryd.prog Rows.valueSaysRow.laid W) : Val.Tab W := by
  have h1 : laidMet Tryd.prog Rows.valueSaysRow.laid W := (laidMetH_iff.1 h).1
  have h2 := laidMet.filter (fun x => x.1 == "internal/strconv.uint64pow10") h1
  exact Go.Lib.tabIs_of_head (P := Tryd.prog) (name := "internal/strconv.uint64pow10") (k := .u64) (zs := Go.Lib.pow10Tab) (rest := []) (t := 148) (e := 126) (n := 20) (g := 1) (by kernel_rfl) (by kernel_rfl) (by kernel_rfl) (by kernel_rfl) (by kernel_rfl) (by kernel_rfl) h2

def cellsOf : DataW Unit → Array Value
  | .agg l => (l.map fun | .lit (.int k n) => .int k n | _ => undef).toArray
  | _ => #[]
def setBlk (w : World) (g : Nat) (cs : Array Value) : World :=
  { w with heap := w.heap.modify g fun
      | .cells _ t frozen => .cells cs t frozen
      | o => o }
/-- A world that meets the condition: the settled one, the three tables laid. -/
noncomputable def laidWorld (os : Os) : World :=
  setBlk (setBlk (setBlk (World.holding Tryd.prog os ⟨#[], #[], []⟩) 1 (cellsOf Rows.laid_internal_strconv_uint64pow10)) 2 (cellsOf Rows.laid_math_bits_deBruijn32tab)) 3 (cellsOf Rows.laid_math_bits_deBruijn64tab)
theorem laidWorld_met (os : Os) (args : Array Value) : laidMetH Tryd.prog Rows.valueSaysRow.laid ((laidWorld os).forCall (fun _ _ => 0) ⟨#[], args, []⟩).memory := by
  refine laidMetH_iff.2 ⟨?_, fun x hx => by cases hx⟩
  show laidMet Tryd.prog Rows.valueSaysRow.laid _
  exact laidMet_of_run' 8 (by kernel_rfl) (by kernel_rfl)
set_option maxRecDepth 100000 in
theorem lifted (os : Os) (started : os.Started) (H : Type) (enc : TypeId × Value → H) :
    ReturnsInHanded {} Tryd.checked os 11 .any (fun w args => (Rows.valueSaysSpec.pre enc Tryd.prog Tryd.f11 [] false w args ∧ laidMetH Tryd.prog Rows.valueSaysRow.laid w) ∧ sizedMet enc Tryd.prog Tryd.f11 (OpenSpec.ofChange Rows.valueSaysSpec) false w args)
      (Rows.valueSaysSpec.post enc Tryd.prog Tryd.f11 false true false false) := by
  refine returnsInHanded_of_change_and (C := Tryd.checked) (X := fun w _ => laidMetH Tryd.prog Rows.valueSaysRow.laid w) (fun _ _ _ hh h => h.of_heap hh) own started (by kernel_rfl) Tryd.func11
    (ChangeSpec.witness_at (enc := enc) (C := Tryd.checked) (os := os) (X := fun w _ => laidMetH Tryd.prog Rows.valueSaysRow.laid w) false (laidWorld os) #[.int .i64 0, .string ⟨#[]⟩] 8 rfl (by kernel_rfl) (by kernel_rfl) (by kernel_rfl) (by kernel_rfl) (by kernel_rfl) (laidWorld_met os _)) ?_
  intro W base args ds gs before hval0 hW hcnd hsz0 hL _
  have hsz : (DataW.weightsEach Tryd.prog (Tryd.f11.params.toList ++ Rows.valueSaysSpec.plain.varTypes Tryd.prog) (ds ++ gs)).all (· ≤ reachBytes) = true := hsz0
  have hval : ∀ (j : Nat) t v, Tryd.f11.params[j]? = some t → args[j]? = some v → Value.okWide Tryd.prog W .any base t v := hval0
  have hW' := hW
  obtain ⟨p, q, hA0, hV, rfl, hfz, hnd⟩ := hW
  have hA : DataW.TrodAll enc Tryd.prog W 0 (fun _ => true) true Tryd.f11.params.toList args.toList ds p := hA0
  rw [Tryd.params11] at hA hval hsz
  obtain ⟨v0, vs0, d0, ds0, p0, q0, hargs, rfl, rfl, h0, r0⟩ := trodAll_cons hA
  obtain ⟨v1, vs1, d1, ds1, p1, q1, rfl, rfl, rfl, h1, r1⟩ := trodAll_cons r0
  obtain ⟨rfl, rfl, rfl⟩ := trodAll_nil r1
  obtain rfl : args = #[v0, v1] := by cases args; simp_all
  obtain ⟨rfl, rfl⟩ := trodVars_none hV
  obtain ⟨a0, rfl, rfl, rfl, w0⟩ := open_int Tryd.underlying3 (hval 0 3 v0 rfl rfl) h0
  obtain ⟨a1, rfl, rfl, rfl, w1⟩ := open_string Tryd.underlying9 (hval 1 9 v1 rfl rfl) h1
  have HT := tab_of hL
  clear hA0 hval0 hsz0 hsz
  refine (MVal.says_calls a0 a1 W ⟨HT⟩ (Go.bounds_i64 w0).1 (Go.bounds_i64 w0).2).mono fun e W' ⟨he, bel⟩ => ?_
  subst he
  exact ⟨_, rfl, _, _, _, [], _, [], hW', trodAll_mk1 (shut_bool Tryd.underlying4 _), (trodAll_cons_mk (shut_int Tryd.underlying3 w0) (trodAll_cons_mk (shut_string Tryd.underlying9 w1) trodAll_mk0)), rfl, bel.frame _, fun h => by cases h⟩
theorem over : Rows.valueSaysRow.holds Tryd.pinned (OpenSpec.ofChange Rows.valueSaysSpec) :=
  OpenClaim.holds_of_wide 11 Tryd.f11 rfl rfl rfl rfl rfl rfl rfl ⟨rfl, rfl, rfl, rfl, rfl⟩ rfl rfl rfl rfl rfl (by kernel_rfl) Tryd.func11 (by kernel_rfl)
    (of_decide_eq_true (by kernel_rfl)) (by unfold Func.isWrapper; first | (rw [if_pos (by decide +kernel)]; kernel_rfl) | (rw [if_neg (by decide +kernel)]; exact ⟨rfl, rfl⟩))
    (fun os started H enc _ => lifted os started H enc)
theorem card : Rows.ValueSaysCardSaid :=
  Claim7.holds_tied_plain_at .later [] [.data, .data, .data] true (true, "594ae818ccf45da5ee6755f6fe15fe008c78c81a88d5f6042142cec4b75566ae") true
    over (fun _ h => by cases h) (by kernel_rfl) (fun _ h => by cases h) valueSays_row_tie rfl ⟨rfl, rfl⟩ (by kernel_rfl) rfl
    (fun f fn hf hfn => by
      obtain rfl : f = 11 := Option.some.inj ((show Tryd.prog.funcNamed "broadside/broadsidelaw2.ValueSays" = some 11 by kernel_rfl).symm.trans hf) |>.symm
      obtain rfl : fn = Tryd.f11 := (Option.some.inj (Tryd.func11.symm.trans hfn)).symm
      exact ⟨by kernel_rfl, fun j t ht => by
        rw [Tryd.params11] at ht
        cases j with
        | zero => simp at ht; subst ht; kernel_rfl
        | succ j =>
          cases j with
          | zero => simp at ht; subst ht; kernel_rfl
          | succ j =>
            simp at ht⟩)
    (by kernel_rfl)
#print axioms card
end Go.Proofs.YtpkdfjlkhfjlcaaDoor.valueSays
namespace Go.Proofs.YtpkdfjlkhfjlcaaDoor
/-- The card, under a short name, for the claim. -/
theorem valueSays_holds : Rows.ValueSaysCardSaid := valueSays.card
end Go.Proofs.YtpkdfjlkhfjlcaaDoor
