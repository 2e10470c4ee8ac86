/-
  RelTells returns true for every value of its parameters; the arguments read behind the call as they read before. No condition.
-/
import Derived.Test.YtfabnapjbgamaaaRows
import Derived.Test.YtfabnapjbgamaaaRelY1
import Derived.Lib.SmallJoins
import Derived.WalkKit
import Derived.ProofKit
import Derived.OpenShut
import Derived.ShutString
import Derived.ChangeOld
import Derived.Below
import Derived.SizedLaws
import Derived.Test.YtfabnapjbgamaaaWSized
namespace Go.Proofs.Ytfabnapjbgamaaa.relTells
open Go.ChangeShapes Go.WideShapes Go.ChangeAt Go.RowKit
open Go.Proofs.YtfabnapjbgamaaaW
set_option linter.unusedVariables false
theorem own : ownKnob Try.prog.godebug = none := by kernel_rfl
theorem laidOut : laidOutB Try.prog = true := by kernel_rfl
def IsRow (k : IntKind) (w : World) (a : Option Addr) (len cap : Nat) (zs : List Int) : Prop :=
  (a = none ∧ len = 0 ∧ cap = 0 ∧ zs = []) ∨
  ∃ x, a = some x ∧ len ≤ cap ∧ cap ≤ maxLen ∧ zs.length = cap ∧ (∀ i, i < zs.length → w.cell? (x.add i) = some (.int k (zs.getD i 0))) ∧ ∀ n ∈ zs, (Lit.int k n).wf = true
theorem rows {H : Type} {enc : TypeId × Value → H} {W : World} {base : Nat} {spare : Nat → Bool} {held : Bool} {fuel : Nat} {v : Value} {x : DataW H × List MemPlace} (hf : DataW.trod enc Try.prog W base spare held fuel 27 [v] = some x) (hs : ∀ b, spare b = true) :
    ∃ a len cap zs, v = .slice a len cap ∧ IsRow .i64 W a len cap zs := by
  rcases open_ints Try.underlying27 Try.underlying3 (by kernel_rfl) hf with ⟨hcs, _⟩ | ⟨x, l, c, zs, hcs, _, hl, hm, hz, _, hcell, hwz⟩
  · cases hcs
    exact ⟨none, 0, 0, [], rfl, .inl ⟨rfl, rfl, rfl, rfl⟩⟩
  · cases hcs
    exact ⟨some x, l, c, zs, rfl, .inr ⟨_, rfl, hl, hm, by simpa [hs] using hz, hcell, hwz⟩⟩
set_option maxRecDepth 100000 in
theorem lifted (os : Os) (started : os.Started) (H : Type) (enc : TypeId × Value → H) :
    ReturnsInHanded {} Try.checked os 4 .any (Rows.relTellsSpec.pre6 enc Try.prog Try.f4 Rows.relTellsRow.domain false) (Rows.relTellsSpec.post enc Try.prog Try.f4 false true false false) := by
  refine returnsInHanded_of_change_sized (C := Try.checked) own started (by kernel_rfl) Try.func4
    (ChangeSpec.witness6 (enc := enc) (C := Try.checked) false ⟨#[], #[.agg #[.slice none 0 0, .slice none 0 0], .agg #[.slice none 0 0, .slice none 0 0], .agg #[.slice none 0 0, .slice none 0 0]], []⟩ 8 (by kernel_rfl) (by kernel_rfl) (by kernel_rfl) (by kernel_rfl)) ?_
  intro W base args ds gs before hval0 hW hcnd hsz0 _
  have hsz : (DataW.weightsEach Try.prog (Try.f4.params.toList ++ Rows.relTellsSpec.plain.varTypes Try.prog) (ds ++ gs)).all (· ≤ reachBytes) = true := hsz0
  have hval : ∀ (j : Nat) t v, Try.f4.params[j]? = some t → args[j]? = some v → Value.okWide Try.prog W .any base t v := hval0
  have hW' := hW
  obtain ⟨p, q, hA0, hV, rfl, hfz, hnd⟩ := hW
  have hA : DataW.TrodAll enc Try.prog W 0 (fun _ => true) true Try.f4.params.toList args.toList ds p := hA0
  rw [Try.params4] at hA hval hsz
  obtain ⟨v0, vs0, d0, ds0, p0, q0, hargs, rfl, rfl, h0, r0⟩ := trodAll_cons hA
  obtain ⟨v1, vs1, d1, ds1, p1, q1, rfl, rfl, rfl, h1, r1⟩ := trodAll_cons r0
  obtain ⟨v2, vs2, d2, ds2, p2, q2, rfl, rfl, rfl, h2, r2⟩ := trodAll_cons r1
  obtain ⟨rfl, rfl, rfl⟩ := trodAll_nil r2
  obtain rfl : args = #[v0, v1, v2] := by cases args; simp_all
  obtain ⟨rfl, rfl⟩ := trodVars_none hV
  have k0 := h0
  have lt0 : ∀ x ∈ p0, x.block < W.heap.size := by obtain ⟨m, hm⟩ := k0; exact DataW.trod_lt m _ _ _ hm
  obtain ⟨u0, x0, t0, s0, n0, rfl, _, _, g0, f0⟩ := Go.Joins.open_agg2 Try.underlying29 (by kernel_rfl) (by kernel_rfl) (hval 0 29 v0 rfl rfl) h0
  obtain ⟨Al0, Nl0, Cl0, Zl0, rfl, wl0⟩ := rows g0 (fun _ => rfl)
  obtain ⟨l0, rfl, Rl0, _, _, Ql0⟩ := PrintWords.ReadsInt.ofRowC wl0
  obtain ⟨Am0, Nm0, Cm0, Zm0, rfl, wm0⟩ := rows f0 (fun _ => rfl)
  obtain ⟨m0, rfl, Rm0, _, _, Qm0⟩ := PrintWords.ReadsInt.ofRowC wm0
  have k1 := h1
  have lt1 : ∀ x ∈ p1, x.block < W.heap.size := by obtain ⟨m, hm⟩ := k1; exact DataW.trod_lt m _ _ _ hm
  obtain ⟨u1, x1, t1, s1, n1, rfl, _, _, g1, f1⟩ := Go.Joins.open_agg2 Try.underlying29 (by kernel_rfl) (by kernel_rfl) (hval 1 29 v1 rfl rfl) h1
  obtain ⟨Al1, Nl1, Cl1, Zl1, rfl, wl1⟩ := rows g1 (fun _ => rfl)
  obtain ⟨l1, rfl, Rl1, _, _, Ql1⟩ := PrintWords.ReadsInt.ofRowC wl1
  obtain ⟨Am1, Nm1, Cm1, Zm1, rfl, wm1⟩ := rows f1 (fun _ => rfl)
  obtain ⟨m1, rfl, Rm1, _, _, Qm1⟩ := PrintWords.ReadsInt.ofRowC wm1
  have k2 := h2
  have lt2 : ∀ x ∈ p2, x.block < W.heap.size := by obtain ⟨m, hm⟩ := k2; exact DataW.trod_lt m _ _ _ hm
  obtain ⟨u2, x2, t2, s2, n2, rfl, _, _, g2, f2⟩ := Go.Joins.open_agg2 Try.underlying30 (by kernel_rfl) (by kernel_rfl) (hval 2 30 v2 rfl rfl) h2
  obtain ⟨Al2, Nl2, Cl2, Zl2, rfl, wl2⟩ := rows g2 (fun _ => rfl)
  obtain ⟨l2, rfl, Rl2, _, _, Ql2⟩ := PrintWords.ReadsInt.ofRowC wl2
  obtain ⟨Am2, Nm2, Cm2, Zm2, rfl, wm2⟩ := rows f2 (fun _ => rfl)
  obtain ⟨m2, rfl, Rm2, _, _, Qm2⟩ := PrintWords.ReadsInt.ofRowC wm2
  clear hA0 hval0 hsz0 hsz
  refine (MRelTrue.relTells_calls Al0 Am0 Cl0 Cm0 l0 m0 Al1 Am1 Cl1 Cm1 l1 m1 Al2 Am2 Cl2 Cm2 l2 m2 W (PrintWords.Kd.C_of_reads (enc := Value.int .i64) (d := (0 : Int)) (h1 := fun _ => rfl) Rl0) Ql0 (PrintWords.Kd.C_of_reads (enc := Value.int .i64) (d := (0 : Int)) (h1 := fun _ => rfl) Rm0) Qm0 (PrintWords.Kd.C_of_reads (enc := Value.int .i64) (d := (0 : Int)) (h1 := fun _ => rfl) Rl1) Ql1 (PrintWords.Kd.C_of_reads (enc := Value.int .i64) (d := (0 : Int)) (h1 := fun _ => rfl) Rm1) Qm1 (PrintWords.Kd.C_of_reads (enc := Value.int .i64) (d := (0 : Int)) (h1 := fun _ => rfl) Rl2) Ql2 (PrintWords.Kd.C_of_reads (enc := Value.int .i64) (d := (0 : Int)) (h1 := fun _ => rfl) Rm2) Qm2).mono fun e W' ⟨he, bel⟩ => ?_
  subst he
  exact ⟨_, rfl, _, _, _, [], _, [], hW', trodAll_mk1 (shut_bool Try.underlying4 _), (trodAll_cons_mk (Below.trod laidOut (by kernel_rfl) (of_decide_eq_true (by kernel_rfl)) k0 bel lt0) (trodAll_cons_mk (Below.trod laidOut (by kernel_rfl) (of_decide_eq_true (by kernel_rfl)) k1 bel lt1) (trodAll_cons_mk (Below.trod laidOut (by kernel_rfl) (of_decide_eq_true (by kernel_rfl)) k2 bel lt2) trodAll_mk0))), rfl, bel.frame _, fun h => by cases h⟩
theorem over : Rows.relTellsRow.holds Try.pinned (OpenSpec.ofChange Rows.relTellsSpec) :=
  OpenClaim.holds_of_wide 4 Try.f4 rfl rfl rfl rfl rfl rfl rfl ⟨rfl, rfl, rfl, rfl, rfl⟩ rfl rfl rfl rfl rfl (by kernel_rfl) Try.func4 (by kernel_rfl)
    (of_decide_eq_true (by kernel_rfl)) (by unfold Func.isWrapper; first | (rw [if_pos (by decide +kernel)]; kernel_rfl) | (rw [if_neg (by decide +kernel)]; exact ⟨rfl, rfl⟩))
    (fun os started H enc _ => lifted os started H enc)
theorem proved : Rows.RelTellsSaid := over
#print axioms proved
end Go.Proofs.Ytfabnapjbgamaaa.relTells
namespace Go.Proofs.Ytfabnapjbgamaaa
/-- The row, under a short name, for the claim. -/
theorem relTells_holds : Rows.RelTellsSaid := relTells.proved
end Go.Proofs.Ytfabnapjbgamaaa
