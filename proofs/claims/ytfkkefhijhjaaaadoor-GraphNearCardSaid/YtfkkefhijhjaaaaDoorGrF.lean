import Derived.Test.YtfkkefhijhjaaaaDoorGrE
namespace Go.Proofs.YtfkkefhijhjaaaaDoor.Gr
open Go.RowKit Go.Proofs.YtfkkefhijhjaaaaDoorW.PrintWords Go.Proofs.YtfkkefhijhjaaaaDoorW.PrintLast Go.Proofs.YtfkkefhijhjaaaaDoorW.PrintMore
set_option linter.unusedVariables false
set_option linter.unusedSimpArgs false
def FarPost (N : Int) (ls : List (Int × Int)) (x y : Int) (w : World) (e : Ending) (w' : World) : Prop :=
  ∃ r, e = .returned (.int .i64 r) ∧ FarIs N ls x y r ∧ Below w.heap.size w w'
theorem far_reads {n : Nat} {ls : List (Int × Int)} {x y : Int} (hx : isB n x = true) (hy : isB n y = true) {out : Int → Option Nat} (hd : ∀ v d, out v = some d ↔ Dist (Adj n ls) x v d) :
    FarIs n ls x y (match out y with | some d => (d : Int) | none => -1) := by
  refine Or.inl ⟨by rw [hx, hy]; rfl, ?_⟩
  cases h : out y with
  | some d => exact Or.inl ⟨d, (hd y d).mp h, rfl⟩
  | none => exact Or.inr ⟨fun d hD => (by rw [(hd y d).mpr hD] at h; cases h), rfl⟩
set_option maxHeartbeats 8000000 in
set_option maxRecDepth 100000 in
theorem far_calls (N x y : Int) (A : Option Addr) (c : Nat) (ls : List (Int × Int)) (w : World) (hr : Kd.C k24 w A ls.length ls) (hc : ls.length ≤ c) (hl : ls.length ≤ 1000000) (hN : N ≤ 1000000) :
    Calls Tryd.prog 28 #[.agg #[.int .i64 N, .slice A ls.length c], .int .i64 x, .int .i64 y] w fun e w' => FarPost N ls x y w e w' := by
  have F0 := Aside0.mk hr
  clear hr
  cases ha : isB N x
  · go_enter Tryd.func28, Tryd.ntmps28
    go_wp2_with (go_at_call 58; refine (broker_ex _ _ _ rfl _).mono ?_; rintro e w' ⟨rfl, rfl⟩; rw [ha])
    go_ret
    exact ⟨-1, rfl, Or.inr ⟨by rw [ha]; rfl, rfl⟩, by repeat (first | exact Below.refl _ _ | apply below_alloc)⟩
  · cases hb : isB N y
    · go_enter Tryd.func28, Tryd.ntmps28
      go_wp2_with (go_at_call 58; refine (broker_ex _ _ _ rfl _).mono ?_; rintro e w' ⟨rfl, rfl⟩; first | rw [ha] | rw [hb])
      go_ret
      exact ⟨-1, rfl, Or.inr ⟨by rw [ha, hb]; rfl, rfl⟩, by repeat (first | exact Below.refl _ _ | apply below_alloc)⟩
    · have hx := isB_iff.mp ha
      have hy := isB_iff.mp hb
      obtain ⟨n, rfl⟩ : ∃ n : Nat, N = n := ⟨N.toNat, by omega⟩
      have HX := Aside0.mk hx
      have HY := Aside0.mk (wf_rng (n := n) (by omega) hy)
      have HAB := Aside0.mk (And.intro ha hb)
      have hn : n ≤ 1000000 := by omega
      clear hx hy
      go_enter Tryd.func28, Tryd.ntmps28
      go_wp2_with (first | (go_at_call 58; refine (broker_ex _ _ _ rfl _).mono ?_; rintro e w' ⟨rfl, rfl⟩; first | rw [ha] | rw [hb]) | (go_at_call 55; refine (reach_calls n x A c ls _ (Kd.C_below F0.out (by repeat (first | exact Below.refl _ _ | apply below_alloc))) hc hl HX.out hn).mono ?_; rintro e w3 ⟨b, out, m, rfl, hM, hd, hm, hb3, hB⟩; have hlk := hM.look_ok HY.out; have HR := Aside0.mk (far_reads HAB.out.1 HAB.out.2 hd); have HB := Aside0.mk hB; clear hM hd hm hb3 hB; rcases hoy : out y with _ | d <;> (rw [hoy] at HR; simp only [outV, hoy, Option.map_none, Option.getD_none, Option.isSome_none, Option.map_some, Option.getD_some, Option.isSome_some] at hlk; replace hlk : Sem.run Tryd.prog (Instr.lookup 110 (Value.map (some b)) (Value.int IntKind.i64 y) true) w3 = _ := hlk; clear hoy)))
      all_goals
        go_ret
        refine ⟨_, rfl, HR.out, ?_⟩
        exact below_step (by repeat (first | exact Below.refl _ _ | apply below_alloc)) HB.out
end Go.Proofs.YtfkkefhijhjaaaaDoor.Gr
