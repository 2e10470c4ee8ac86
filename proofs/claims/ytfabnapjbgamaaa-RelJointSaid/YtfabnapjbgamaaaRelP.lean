import Derived.Test.YtfabnapjbgamaaaRelL
namespace Go.Proofs.Ytfabnapjbgamaaa.MRelTrue
open Go.RowKit Go.Lib Go.Proofs.YtfabnapjbgamaaaW.PrintWords Go.Proofs.YtfabnapjbgamaaaW.PrintLast Go.Proofs.YtfabnapjbgamaaaW.PrintMore
set_option linter.unusedVariables false
set_option linter.unusedSimpArgs false
/-! ### for printed callers -/
theorem mk.l1_mono (k : Nat) : ∀ l, LeO (mk.l1 k l) (mk.l1 (k + 1) l)
  | [] => LeO.refl _
  | c :: t => by
    rw [mk.l1, mk.l1]
    refine LeO.bind (pred_RightOne.mono _ _ _ _ _ _) (fun b => ?_)
    exact LeO.ite (mk.l1_mono k t) (LeO.refl _)
theorem pred_Make.mono (l : List S23) (k : Nat) : LeO (pred_Make.f k l) (pred_Make.f (k + 1) l) := by
  unfold pred_Make.f
  exact LeO.bind (mk.l1_mono k l) (fun _ => LeO.refl _)
theorem rel_Joint.mono : ∀ l0 l1 k, LeO (rel_Joint.f k l0 l1) (rel_Joint.f (k + 1) l0 l1) := by
  intro l0 l1 k
  unfold rel_Joint.f
  refine LeO.ite (LeO.bind (pred_Make.mono _ k) (fun r => ?_)) (LeO.refl _)
  cases r with
  | none => exact LeO.refl _
  | some out => exact LeO.bind (rel_Sample.mono _ k) (fun _ => LeO.refl _)
theorem rel_Meets.mono : ∀ l0 l1 k, LeO (rel_Meets.f k l0 l1) (rel_Meets.f (k + 1) l0 l1) := by
  intro l0 l1 k
  unfold rel_Meets.f
  exact LeO.bind (rel_Joint.mono _ _ k) (fun _ => LeO.refl _)
def broadsidelaw5_RelRuns.f : Option Bool := some true
theorem RelRunsP.calls (r : Bool) (w : World) (h : broadsidelaw5_RelRuns.f = some r) : Calls Try.prog 3 #[] w fun e w' => e = .returned (.bool r) ∧ Below w.heap.size w w' := by
  have e : r = true := by
    unfold broadsidelaw5_RelRuns.f at h
    simpa using h.symm
  subst e
  exact broadsidelaw5_RelRuns.calls w
end Go.Proofs.Ytfabnapjbgamaaa.MRelTrue
