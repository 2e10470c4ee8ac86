/-
  PredLimits returns true for every value of its parameters; the arguments read behind the call as they read before. No condition but the form's own and the listed variables, as their initialisers lay them.
-/
import Derived.Test.YtfabnapjbgamaaaGreatDoorRows
import Derived.Test.YtfabnapjbgamaaaGreatDoorCards
import Derived.Test.YtfabnapjbgamaaaGreatDoorTie
import Derived.Test.YtfabnapjbgamaaaGreatDoorPrO
import Derived.ChangeSame
import Derived.ChangeVars
import Derived.JoinedOf
import Derived.RowKit
import Derived.RowKitTokens
import Derived.LaidLaws
import Derived.LaidHandle
import Derived.LaidSub
import Derived.Lib.LaidTab
import Derived.Lib.SmallJoins
import Derived.Stop.Joined
import Derived.SevenTiedAt
import Derived.WalkKit
import Derived.ProofKit
import Derived.OpenShut
import Derived.ShutString
import Derived.ChangeOld
import Derived.Below
import Derived.SizedLaws
import Derived.Test.YtfabnapjbgamaaaGreatDoorV
namespace Go.Proofs.YtfabnapjbgamaaaGreatDoor.predLimits
open Go.ChangeShapes Go.WideShapes Go.ChangeAt Go.RowKit
open Go.ChangeMaps (open_string shut_string)
open Go.Proofs.YtfabnapjbgamaaaGreatDoorW
set_option linter.unusedVariables false
theorem own : ownKnob Tryz.prog.godebug = none := by kernel_rfl
theorem laidOut : laidOutB Tryz.prog = true := by kernel_rfl
/-- What the condition on the tables gives. -/
theorem tab_of {W : World} (h : laidMetH Tryz.prog Rows.predLimitsRow.laid W) : Val.Tab W := by
  have h1 : laidMet Tryz.prog (Rows.predLimitsRow.laid.filter fun x => x.2.handleName?.isNone) W := And.left (show laidMet Tryz.prog (Rows.predLimitsRow.laid.filter fun x => x.2.handleName?.isNone) W ∧ handlesMet Tryz.prog (Rows.predLimitsRow.laid.filter fun x => x.2.handleName?.isSome) W from h)
  have h2 := laidMet.filter (fun x => x.1 == "internal/strconv.uint64pow10") h1
  exact Go.Lib.tabIs_of_head (P := Tryz.prog) (name := "internal/strconv.uint64pow10") (k := .u64) (zs := Go.Lib.pow10Tab) (rest := []) (t := 158) (e := 149) (n := 20) (g := 2) (by kernel_rfl) (by kernel_rfl) (by kernel_rfl) (by kernel_rfl) (by kernel_rfl) (by kernel_rfl) h2
theorem et : Tryz.prog.globalNamed "errors.errorType" = some 0 := by kernel_rfl
theorem rt : (Tryz.prog.cutTypes.find? (·.1 == "internal/reflectlite.rtype")).map (·.2) = some 98 := by kernel_rfl
theorem oneRow : ((List.range 251).filter fun t => Tryz.prog.rowNamed t [101, 114, 114, 111, 114]) = [27] := by kernel_rfl
theorem size : Tryz.prog.types.size = 251 := by kernel_rfl
theorem typ_of {W : World} (h : laidMetH Tryz.prog Rows.predLimitsRow.laid W) : Er.Typ W := by
  have h' : laidMet Tryz.prog (Rows.predLimitsRow.laid.filter fun x => x.2.handleName?.isNone) W ∧ handlesMet Tryz.prog (Rows.predLimitsRow.laid.filter fun x => x.2.handleName?.isSome) W := h
  obtain ⟨name, u, ty, e1, e2, e3, e4, e5⟩ := h'.2 _ (List.mem_singleton.2 rfl)
  have en : name = [101, 114, 114, 111, 114] := (Option.some.inj e1).symm
  subst en
  obtain rfl := Option.some.inj (rt.symm.trans e2)
  have hm : ty ∈ (List.range 251).filter fun t => Tryz.prog.rowNamed t [101, 114, 114, 111, 114] := List.mem_filter.2 ⟨List.mem_range.2 (by rw [← size]; exact e3), e4⟩
  rw [oneRow] at hm
  obtain rfl := List.mem_singleton.1 hm
  have hh : typeHandle Tryz.prog 27 = .pointer (some ⟨5, 27, none⟩) := by kernel_rfl
  rw [hh] at e5
  have h9 := World.var?_cell et e5 0
  simp only [List.getElem?_toArray, List.getElem?_cons_zero] at h9
  exact h9
def IsRow (k : IntKind) (w : World) (a : Option Addr) (len cap : Nat) (zs : List Int) : Prop :=
  (a = none ∧ len = 0 ∧ cap = 0 ∧ zs = []) ∨
  ∃ x, a = some x ∧ len ≤ cap ∧ cap ≤ maxLen ∧ zs.length = cap ∧ (∀ i, i < zs.length → w.cell? (x.add i) = some (.int k (zs.getD i 0))) ∧ ∀ n ∈ zs, (Lit.int k n).wf = true
def cellsOf : DataW Unit → Array Value
  | .agg l => (l.map fun | .lit (.int k n) => .int k n | _ => undef).toArray
  | _ => #[]
def setBlk (w : World) (g : Nat) (cs : Array Value) : World :=
  { w with heap := w.heap.modify g fun
      | .cells _ t frozen => .cells cs t frozen
      | o => o }
/-- A world that meets the condition. -/
noncomputable def laidWorld (os : Os) : World := setBlk (setBlk (setBlk (setBlk (World.holding Tryz.prog os ⟨#[], #[], []⟩) 0 #[.iface 98 (.agg #[.pointer (some ⟨5, 27, none⟩)])]) 2 (cellsOf Rows.laid_internal_strconv_uint64pow10)) 3 (cellsOf Rows.laid_math_bits_deBruijn32tab)) 4 (cellsOf Rows.laid_math_bits_deBruijn64tab)
theorem laidWorld_met (os : Os) (args : Array Value) : laidMetH Tryz.prog Rows.predLimitsRow.laid ((laidWorld os).forCall (fun _ _ => 0) ⟨#[], args, []⟩).memory :=
  laidMetH_of_parts (laidMet_of_run' 8 (by kernel_rfl) (by kernel_rfl)) (by kernel_rfl)
set_option maxRecDepth 100000 in
theorem lifted (os : Os) (started : os.Started) (H : Type) (enc : TypeId × Value → H) :
    ReturnsInHanded {} Tryz.checked os 7 .any (fun w args => (Rows.predLimitsSpec.pre enc Tryz.prog Tryz.f7 [] false w args ∧ laidMetH Tryz.prog Rows.predLimitsRow.laid w) ∧ sizedMet enc Tryz.prog Tryz.f7 (OpenSpec.ofChange Rows.predLimitsSpec) false w args)
      (Rows.predLimitsSpec.post enc Tryz.prog Tryz.f7 false true false false) := by
  refine returnsInHanded_of_change_and (C := Tryz.checked) (X := fun w _ => laidMetH Tryz.prog Rows.predLimitsRow.laid w) (fun _ _ _ hh h => h.of_heap hh) own started (by kernel_rfl) Tryz.func7
    (ChangeSpec.witness_at (enc := enc) (C := Tryz.checked) (os := os) (X := fun w _ => laidMetH Tryz.prog Rows.predLimitsRow.laid w) false (laidWorld os) #[.int .i64 0, .int .i64 0, .int .i64 0, .int .i64 0] 8 rfl (by kernel_rfl) (by kernel_rfl) (by kernel_rfl) (by kernel_rfl) (by kernel_rfl) (laidWorld_met os _)) ?_
  intro W base args ds gs before hval0 hW hcnd hsz0 hL _
  have hsz : (DataW.weightsEach Tryz.prog (Tryz.f7.params.toList ++ Rows.predLimitsSpec.plain.varTypes Tryz.prog) (ds ++ gs)).all (· ≤ reachBytes) = true := hsz0
  have hval : ∀ (j : Nat) t v, Tryz.f7.params[j]? = some t → args[j]? = some v → Value.okWide Tryz.prog W .any base t v := hval0
  have hW' := hW
  obtain ⟨p, q, hA0, hV, rfl, hfz, hnd⟩ := hW
  have hA : DataW.TrodAll enc Tryz.prog W 0 (fun _ => true) true Tryz.f7.params.toList args.toList ds p := hA0
  rw [Tryz.params7] at hA hval hsz
  obtain ⟨v0, vs0, d0, ds0, p0, q0, hargs, rfl, rfl, h0, r0⟩ := trodAll_cons hA
  obtain ⟨v1, vs1, d1, ds1, p1, q1, rfl, rfl, rfl, h1, r1⟩ := trodAll_cons r0
  obtain ⟨v2, vs2, d2, ds2, p2, q2, rfl, rfl, rfl, h2, r2⟩ := trodAll_cons r1
  obtain ⟨v3, vs3, d3, ds3, p3, q3, rfl, rfl, rfl, h3, r3⟩ := trodAll_cons r2
  obtain ⟨rfl, rfl, rfl⟩ := trodAll_nil r3
  obtain rfl : args = #[v0, v1, v2, v3] := by cases args; simp_all
  obtain ⟨rfl, rfl⟩ := trodVars_none hV
  obtain ⟨a0, rfl, rfl, rfl, w0⟩ := open_int Tryz.underlying3 (hval 0 3 v0 rfl rfl) h0
  obtain ⟨a1, rfl, rfl, rfl, w1⟩ := open_int Tryz.underlying3 (hval 1 3 v1 rfl rfl) h1
  obtain ⟨a2, rfl, rfl, rfl, w2⟩ := open_int Tryz.underlying3 (hval 2 3 v2 rfl rfl) h2
  obtain ⟨a3, rfl, rfl, rfl, w3⟩ := open_int Tryz.underlying3 (hval 3 3 v3 rfl rfl) h3
  have HT := tab_of hL
  have HY := typ_of hL
  clear hA0 hval0 hsz0 hsz
  refine (MPred.Limits.calls a0 a1 a2 a3 W ⟨HT⟩ ⟨HY⟩ (Go.bounds_i64 w2) (Go.bounds_i64 w3)).mono fun e W' ⟨he, bel⟩ => ?_
  subst he
  exact ⟨_, rfl, _, _, _, [], _, [], hW', trodAll_mk1 (shut_bool Tryz.underlying4 _), (trodAll_cons_mk (shut_int Tryz.underlying3 w0) (trodAll_cons_mk (shut_int Tryz.underlying3 w1) (trodAll_cons_mk (shut_int Tryz.underlying3 w2) (trodAll_cons_mk (shut_int Tryz.underlying3 w3) trodAll_mk0)))), rfl, bel.frame _, fun h => by cases h⟩
theorem over : Rows.predLimitsRow.holds Tryz.pinned (OpenSpec.ofChange Rows.predLimitsSpec) :=
  OpenClaim.holds_of_wide 7 Tryz.f7 rfl rfl rfl rfl rfl rfl rfl ⟨rfl, rfl, rfl, rfl, rfl⟩ rfl rfl rfl rfl rfl (by kernel_rfl) Tryz.func7 (by kernel_rfl)
    (of_decide_eq_true (by kernel_rfl)) (by unfold Func.isWrapper; first | (rw [if_pos (by decide +kernel)]; kernel_rfl) | (rw [if_neg (by decide +kernel)]; exact ⟨rfl, rfl⟩))
    (fun os started H enc _ => lifted os started H enc)
theorem card : Rows.PredLimitsCardSaid :=
  Claim7.holds_tied_plain_at .later [] [.data, .data, .data, .handle] true (true, "1d848dc5fbbe235b990df5c8e304190fb92e57f076ec4c3b01c0f89c2f6a92f9") true
    over (fun _ h => by cases h) (by kernel_rfl) (fun _ h => by cases h) predLimits_row_tie rfl ⟨rfl, rfl⟩ (by kernel_rfl) rfl
    (fun f fn hf hfn => by
      obtain rfl : f = 7 := Option.some.inj ((show Tryz.prog.funcNamed "broadside/broadsidelaw4.PredLimits" = some 7 by kernel_rfl).symm.trans hf) |>.symm
      obtain rfl : fn = Tryz.f7 := (Option.some.inj (Tryz.func7.symm.trans hfn)).symm
      exact ⟨by kernel_rfl, fun j t ht => by
        rw [Tryz.params7] at ht
        cases j with
        | zero => simp at ht; subst ht; kernel_rfl
        | succ j =>
          cases j with
          | zero => simp at ht; subst ht; kernel_rfl
          | succ j =>
            cases j with
            | zero => simp at ht; subst ht; kernel_rfl
            | succ j =>
              cases j with
              | zero => simp at ht; subst ht; kernel_rfl
              | succ j =>
                simp at ht⟩)
    (by kernel_rfl)
#print axioms card
end Go.Proofs.YtfabnapjbgamaaaGreatDoor.predLimits
namespace Go.Proofs.YtfabnapjbgamaaaGreatDoor
/-- The card, under a short name, for the claim. -/
theorem predLimits_holds : Rows.PredLimitsCardSaid := predLimits.card
end Go.Proofs.YtfabnapjbgamaaaGreatDoor
