import Derived.Test.YtgdieejhglhkcaaGreatDoorMTupx0
import Derived.Deep.Slices
import Derived.Deep.Fields
import Derived.ChangeSame
import Derived.Lib.SmallJoins
namespace Go.Proofs.YtgdieejhglhkcaaGreatDoor.MTup
open Go.RowKit Go.Proofs.YtgdieejhglhkcaaGreatDoorW.PrintWords Go.Proofs.YtgdieejhglhkcaaGreatDoorW.PrintLast Go.Proofs.YtgdieejhglhkcaaGreatDoorW.PrintMore
set_option linter.unusedVariables false
set_option linter.unusedSimpArgs false
/-! What the row hands over of a '[]api.Attr' that came in. -/
section
open Go.ChangeShapes Go.WideShapes Go.Deep
set_option maxRecDepth 100000 in
theorem attrs {H : Type} {enc : TypeId × Value → H} {W : World} {base : Nat} {spare : Nat → Bool} {held : Bool} {fuel : Nat} {v : Value} {x : DataW H × List MemPlace} (hf : DataW.trod enc Tryz.prog W base spare held fuel 26 [v] = some x) (hs : ∀ b, spare b = true) :
    ∃ A, ∃ l : List S25, ∃ c, v = .slice A l.length c ∧ l.length ≤ c ∧ Kd.C k25 W A l.length l ∧ ∀ x ∈ l, x.f0.size ≤ 9223372036854775807 := by
  rcases open_slice Tryz.underlying26 hf with ⟨hcs, _⟩ | ⟨a, len, cap, m, n, D, Pl, hcs, hb, hl, hm, hmm, hx, hi⟩
  · cases hcs
    exact ⟨none, [], 0, rfl, Nat.le_refl _, Kd.C_nil _ _, fun x hx => by simp at hx⟩
  · cases hcs
    have hlm : len ≤ m := by rw [hmm]; split <;> omega
    have hsz : Tryz.prog.cellsOf 25 = 4 := by kernel_rfl
    have hsz3 : Tryz.prog.cellsOf 23 = 3 := by kernel_rfl
    have c9 : Tryz.prog.cellsOf 9 = 1 := by kernel_rfl
    have c4 : Tryz.prog.cellsOf 4 = 1 := by kernel_rfl
    have c3 : Tryz.prog.cellsOf 3 = 1 := by kernel_rfl
    have each : ∀ i, ∃ s : S25, i < len → s.f0.size ≤ 9223372036854775807 ∧ ∀ j u, ([.string s.f0, .bool s.f1.f0, .int .i64 s.f1.f1, .string s.f1.f2] : List Value)[j]? = some u → W.cell? (a.add (i * 4 + j)) = some u := fun i => by
      by_cases h : i < len
      · obtain ⟨cs', hc, ht⟩ := hi i (by omega)
        rw [hsz] at hc
        obtain ⟨ys, n', hn', hy, hlen, hyl, hf1⟩ := DataW.trod_struct Tryz.underlying25 ht
        rw [hsz] at hlen
        obtain ⟨_, hcl, hat⟩ := World.cells?_some hc
        have g0 : DataW.trod enc Tryz.prog W base spare held n' 9 ((cs'.drop 0).take (Tryz.prog.cellsOf 9)) = ys[0]? := hf1 0 _ rfl
        have g1 : DataW.trod enc Tryz.prog W base spare held n' 23 ((cs'.drop 1).take (Tryz.prog.cellsOf 23)) = ys[1]? := hf1 1 _ rfl
        obtain ⟨q0, hq0⟩ : ∃ q, ys[0]? = some q := ⟨_, List.getElem?_eq_getElem (show 0 < ys.length by rw [hyl]; decide)⟩
        obtain ⟨q1, hq1⟩ : ∃ q, ys[1]? = some q := ⟨_, List.getElem?_eq_getElem (show 1 < ys.length by rw [hyl]; decide)⟩
        rw [hq0] at g0
        simp only [c9] at g0
        rw [hq1] at g1
        simp only [hsz3] at g1
        match cs', hlen with
        | [b0, b1, b2, b3], _ =>
          simp only [List.drop_zero, List.drop_succ_cons, List.take_succ_cons, List.take_zero] at g0 g1
          obtain ⟨zs, n2, hn2, hz, hlz, hzl, hf2⟩ := DataW.trod_struct Tryz.underlying23 g1
          have r0 : DataW.trod enc Tryz.prog W base spare held n2 4 (([b1, b2, b3].drop 0).take (Tryz.prog.cellsOf 4)) = zs[0]? := hf2 0 _ rfl
          have r1 : DataW.trod enc Tryz.prog W base spare held n2 3 (([b1, b2, b3].drop 1).take (Tryz.prog.cellsOf 3)) = zs[1]? := hf2 1 _ rfl
          have r2 : DataW.trod enc Tryz.prog W base spare held n2 9 (([b1, b2, b3].drop 2).take (Tryz.prog.cellsOf 9)) = zs[2]? := hf2 2 _ rfl
          obtain ⟨p0, hp0⟩ : ∃ q, zs[0]? = some q := ⟨_, List.getElem?_eq_getElem (show 0 < zs.length by rw [hzl]; decide)⟩
          obtain ⟨p1, hp1⟩ : ∃ q, zs[1]? = some q := ⟨_, List.getElem?_eq_getElem (show 1 < zs.length by rw [hzl]; decide)⟩
          obtain ⟨p2, hp2⟩ : ∃ q, zs[2]? = some q := ⟨_, List.getElem?_eq_getElem (show 2 < zs.length by rw [hzl]; decide)⟩
          rw [hp0] at r0
          simp only [c4] at r0
          rw [hp1] at r1
          simp only [c3] at r1
          rw [hp2] at r2
          simp only [c9] at r2
          simp only [List.drop_zero, List.drop_succ_cons, List.take_succ_cons, List.take_zero] at r0 r1 r2
          obtain ⟨s0, e0, _, w0⟩ := DataW.trod_string Tryz.underlying9 g0
          obtain ⟨s1, e1, _⟩ := DataW.trod_bool Tryz.underlying4 r0
          obtain ⟨s2, e2, _, _⟩ := DataW.trod_int Tryz.underlying3 r1
          obtain ⟨s3, e3, _, _⟩ := DataW.trod_string Tryz.underlying9 r2
          simp only [List.cons.injEq, and_true] at e0 e1 e2 e3
          subst e0 e1 e2 e3
          refine ⟨⟨s0, ⟨s1, s2, s3⟩⟩, fun _ => ⟨by unfold maxLen at w0; exact w0, fun j u hu => ?_⟩⟩
          have hj : j < 4 := by
            have := (List.getElem?_eq_some_iff.1 hu).1
            simpa using this
          rw [← Go.Deep.add_add]
          have := hat j hj
          rw [this]
          exact hu
      · exact ⟨z25, fun h2 => absurd h2 h⟩
    let f : Nat → S25 := fun i => Classical.choose (each i)
    have hfK : ∀ i, i < len → (f i).f0.size ≤ 9223372036854775807 ∧ ∀ j u, ([.string (f i).f0, .bool (f i).f1.f0, .int .i64 (f i).f1.f1, .string (f i).f1.f2] : List Value)[j]? = some u → W.cell? (a.add (i * 4 + j)) = some u := fun i => Classical.choose_spec (each i)
    have hlen : ((List.range len).map f).length = len := by simp
    refine ⟨some a, (List.range len).map f, cap, by rw [hlen], by rw [hlen]; exact hl, ?_, fun x hx => ?_⟩
    · rw [hlen]
      refine ⟨hlen, by have : maxLen ≤ 9223372036854775807 := by simp [maxLen]
                       omega, fun _ => ⟨a, rfl, fun j p hj => ?_⟩⟩
      have hj2 : j < len := by
        have := (List.getElem?_eq_some_iff.1 hj).1
        rwa [hlen] at this
      have hp : p = f j := by
        rw [List.getElem?_map, List.getElem?_range hj2] at hj
        simpa using hj.symm
      subst hp
      exact ⟨_, rfl, k25_mk W (f j), (hfK j hj2).2⟩
    · obtain ⟨i, hi2, rfl⟩ := List.mem_map.1 hx
      exact (hfK i (List.mem_range.1 hi2)).1
end
end Go.Proofs.YtgdieejhglhkcaaGreatDoor.MTup
