/-
  GraphRuns returns true for every value of its parameters; the arguments read behind the call as they read before. No condition but the form's own and the listed variables, as their initialisers lay them.
-/
import Derived.Test.YtfkkefhijhjaaaaDoorRows
import Derived.Test.YtfkkefhijhjaaaaDoorCards
import Derived.Test.YtfkkefhijhjaaaaDoorTie
import Derived.Test.YtfkkefhijhjaaaaDoorGrP
import Derived.ChangeSame
import Derived.ChangeVars
import Derived.JoinedOf
import Derived.RowKit
import Derived.RowKitTokens
import Derived.LaidLaws
import Derived.LaidHandle
import Derived.LaidSub
import Derived.Lib.LaidTab
import Derived.Lib.SmallJoins
import Derived.Stop.Joined
import Derived.SevenTiedAt
import Derived.WalkKit
import Derived.ProofKit
import Derived.OpenShut
import Derived.ShutString
import Derived.ChangeOld
import Derived.Below
import Derived.SizedLaws
import Derived.Test.YtfkkefhijhjaaaaDoorWWords
namespace Go.Proofs.YtfkkefhijhjaaaaDoor.graphRuns
open Go.ChangeShapes Go.WideShapes Go.ChangeAt Go.RowKit
open Go.ChangeMaps (open_string shut_string)
open Go.Proofs.YtfkkefhijhjaaaaDoorW
set_option linter.unusedVariables false
theorem own : ownKnob Tryd.prog.godebug = none := by kernel_rfl
theorem laidOut : laidOutB Tryd.prog = true := by kernel_rfl
theorem et : Tryd.prog.globalNamed "errors.errorType" = some 0 := by kernel_rfl
theorem rt : (Tryd.prog.cutTypes.find? (·.1 == "internal/reflectlite.rtype")).map (·.2) = some 144 := by kernel_rfl
theorem oneRow : ((List.range 213).filter fun t => Tryd.prog.rowNamed t [101, 114, 114, 111, 114]) = [29] := by kernel_rfl
theorem size : Tryd.prog.types.size = 213 := by kernel_rfl
theorem typ_of {W : World} (h : laidMetH Tryd.prog Rows.graphRunsRow.laid W) : Er.Typ W := by
  have h' : laidMet Tryd.prog (Rows.graphRunsRow.laid.filter fun x => x.2.handleName?.isNone) W ∧ handlesMet Tryd.prog (Rows.graphRunsRow.laid.filter fun x => x.2.handleName?.isSome) W := h
  obtain ⟨name, u, ty, e1, e2, e3, e4, e5⟩ := h'.2 _ (List.mem_singleton.2 rfl)
  have en : name = [101, 114, 114, 111, 114] := (Option.some.inj e1).symm
  subst en
  obtain rfl := Option.some.inj (rt.symm.trans e2)
  have hm : ty ∈ (List.range 213).filter fun t => Tryd.prog.rowNamed t [101, 114, 114, 111, 114] := List.mem_filter.2 ⟨List.mem_range.2 (by rw [← size]; exact e3), e4⟩
  rw [oneRow] at hm
  obtain rfl := List.mem_singleton.1 hm
  have hh : typeHandle Tryd.prog 29 = .pointer (some ⟨1, 29, none⟩) := by kernel_rfl
  rw [hh] at e5
  have h9 := World.var?_cell et e5 0
  simp only [List.getElem?_toArray, List.getElem?_cons_zero] at h9
  exact h9
def IsRow (k : IntKind) (w : World) (a : Option Addr) (len cap : Nat) (zs : List Int) : Prop :=
  (a = none ∧ len = 0 ∧ cap = 0 ∧ zs = []) ∨
  ∃ x, a = some x ∧ len ≤ cap ∧ cap ≤ maxLen ∧ zs.length = cap ∧ (∀ i, i < zs.length → w.cell? (x.add i) = some (.int k (zs.getD i 0))) ∧ ∀ n ∈ zs, (Lit.int k n).wf = true
def cellsOf : DataW Unit → Array Value
  | .agg l => (l.map fun | .lit (.int k n) => .int k n | _ => undef).toArray
  | _ => #[]
def setBlk (w : World) (g : Nat) (cs : Array Value) : World :=
  { w with heap := w.heap.modify g fun
      | .cells _ t frozen => .cells cs t frozen
      | o => o }
/-- A world that meets the condition. -/
noncomputable def laidWorld (os : Os) : World := setBlk (World.holding Tryd.prog os ⟨#[], #[], []⟩) 0 #[.iface 144 (.agg #[.pointer (some ⟨1, 29, none⟩)])]
theorem laidWorld_met (os : Os) (args : Array Value) : laidMetH Tryd.prog Rows.graphRunsRow.laid ((laidWorld os).forCall (fun _ _ => 0) ⟨#[], args, []⟩).memory :=
  laidMetH_of_parts (laidMet_nil _ _) (by kernel_rfl)
set_option maxRecDepth 100000 in
theorem lifted (os : Os) (started : os.Started) (H : Type) (enc : TypeId × Value → H) :
    ReturnsInHanded {} Tryd.checked os 6 .any (fun w args => (Rows.graphRunsSpec.pre enc Tryd.prog Tryd.f6 [] false w args ∧ laidMetH Tryd.prog Rows.graphRunsRow.laid w) ∧ sizedMet enc Tryd.prog Tryd.f6 (OpenSpec.ofChange Rows.graphRunsSpec) false w args)
      (Rows.graphRunsSpec.post enc Tryd.prog Tryd.f6 false true false false) := by
  refine returnsInHanded_of_change_and (C := Tryd.checked) (X := fun w _ => laidMetH Tryd.prog Rows.graphRunsRow.laid w) (fun _ _ _ hh h => h.of_heap hh) own started (by kernel_rfl) Tryd.func6
    (ChangeSpec.witness_at (enc := enc) (C := Tryd.checked) (os := os) (X := fun w _ => laidMetH Tryd.prog Rows.graphRunsRow.laid w) false (laidWorld os) #[] 8 rfl (by kernel_rfl) (by kernel_rfl) (by kernel_rfl) (by kernel_rfl) (by kernel_rfl) (laidWorld_met os _)) ?_
  intro W base args ds gs before hval0 hW hcnd hsz0 hL _
  have hsz : (DataW.weightsEach Tryd.prog (Tryd.f6.params.toList ++ Rows.graphRunsSpec.plain.varTypes Tryd.prog) (ds ++ gs)).all (· ≤ reachBytes) = true := hsz0
  have hval : ∀ (j : Nat) t v, Tryd.f6.params[j]? = some t → args[j]? = some v → Value.okWide Tryd.prog W .any base t v := hval0
  have hW' := hW
  obtain ⟨p, q, hA0, hV, rfl, hfz, hnd⟩ := hW
  have hA : DataW.TrodAll enc Tryd.prog W 0 (fun _ => true) true Tryd.f6.params.toList args.toList ds p := hA0
  rw [Tryd.params6] at hA hval hsz
  obtain ⟨rfl, rfl, rfl⟩ := trodAll_none hA
  obtain ⟨rfl, rfl⟩ := trodVars_none hV
  have HY := typ_of hL
  clear hA0 hval0 hsz0 hsz
  refine (Gr.runs_calls W HY).mono fun e W' ⟨he, bel⟩ => ?_
  subst he
  exact ⟨_, rfl, _, _, _, [], _, [], hW', trodAll_mk1 (shut_bool Tryd.underlying4 _), trodAll_mk0, rfl, bel.frame _, fun h => by cases h⟩
theorem over : Rows.graphRunsRow.holds Tryd.pinned (OpenSpec.ofChange Rows.graphRunsSpec) :=
  OpenClaim.holds_of_wide 6 Tryd.f6 rfl rfl rfl rfl rfl rfl rfl ⟨rfl, rfl, rfl, rfl, rfl⟩ rfl rfl rfl rfl rfl (by kernel_rfl) Tryd.func6 (by kernel_rfl)
    (of_decide_eq_true (by kernel_rfl)) (by unfold Func.isWrapper; first | (rw [if_pos (by decide +kernel)]; kernel_rfl) | (rw [if_neg (by decide +kernel)]; exact ⟨rfl, rfl⟩))
    (fun os started H enc _ => lifted os started H enc)
theorem card : Rows.GraphRunsCardSaid :=
  Claim7.holds_tied_plain_at .later [] [.handle] true (true, "ddb9e62be6c6d8faade7162af8e82e1ac986edaa70f21c8599a47529df2dd45b") true
    over (fun _ h => by cases h) (by kernel_rfl) (fun _ h => by cases h) graphRuns_row_tie rfl ⟨rfl, rfl⟩ (by kernel_rfl) rfl
    (fun f fn hf hfn => by
      obtain rfl : f = 6 := Option.some.inj ((show Tryd.prog.funcNamed "broadside/broadsidelaw6.GraphRuns" = some 6 by kernel_rfl).symm.trans hf) |>.symm
      obtain rfl : fn = Tryd.f6 := (Option.some.inj (Tryd.func6.symm.trans hfn)).symm
      exact ⟨by kernel_rfl, fun j t ht => by
        rw [Tryd.params6] at ht
        simp at ht⟩)
    (by kernel_rfl)
#print axioms card
end Go.Proofs.YtfkkefhijhjaaaaDoor.graphRuns
namespace Go.Proofs.YtfkkefhijhjaaaaDoor
/-- The card, under a short name, for the claim. -/
theorem graphRuns_holds : Rows.GraphRunsCardSaid := graphRuns.card
end Go.Proofs.YtfkkefhijhjaaaaDoor
