import Derived.Test.YtfabnapjbgamaaaRelY
import Derived.Test.YtfabnapjbgamaaaRelY0
namespace Go.Proofs.Ytfabnapjbgamaaa.MRelTrue
open Go.RowKit Go.Lib Go.Proofs.YtfabnapjbgamaaaW.PrintWords Go.Proofs.YtfabnapjbgamaaaW.PrintLast Go.Proofs.YtfabnapjbgamaaaW.PrintMore
set_option linter.unusedVariables false
set_option linter.unusedSimpArgs false
theorem tells_true (l0 m0 l1 m1 l2 m2 : List Int) : broadsidelaw5_RelTells.f 100 l0 m0 l1 m1 l2 m2 = some true := by
  obtain ⟨a, ha1, ha⟩ := predK l0 m0 100 (by omega)
  obtain ⟨b, hb1, hb⟩ := predK l1 m1 100 (by omega)
  obtain ⟨l, hl1, hl⟩ := tud_nice l2 m2 100 (by omega)
  have ha5 := ha.len
  have hb5 := hb.len
  have hl5 := hl.len
  unfold broadsidelaw5_RelTells.f
  rw [ha1]
  simp only [Option.bind_some]
  rw [hb1]
  simp only [Option.bind_some]
  rw [hl1]
  simp only [Option.bind_some]
  rw [match_char a l (by omega) (by omega) 100 (by omega)]
  simp only [Option.bind_some]
  rw [rmatch_char a l (by omega) (by omega), rmch_mch hl.dup]
  simp only [Option.bind_some, beq_self_eq_true, if_true]
  rw [up_fuel (g := fun k => rel_Meets.f k a b) (fun k => rel_Meets.mono a b k) (meets_char nms_ok ha hb) 100 (by omega)]
  simp only [Option.bind_some]
  rw [ref_meets nms_ok ha hb]
  simp only [Option.bind_some, beq_self_eq_true, if_true]
  rw [covers_char nms_ok ha hb]
  simp only [Option.bind_some]
  rw [rcov_char ha hb]
  simp only [Option.bind_some, beq_self_eq_true, if_true]
  rfl
theorem relTells_calls (A0 B0 : Option Addr) (a0 b0 : Nat) (l0 m0 : List Int) (A1 B1 : Option Addr) (a1 b1 : Nat) (l1 m1 : List Int) (A2 B2 : Option Addr) (a2 b2 : Nat) (l2 m2 : List Int) (w : World)
    (hr0 : Kd.C (Kd.int .i64) w A0 l0.length l0) (hc0 : l0.length ≤ a0) (hs0 : Kd.C (Kd.int .i64) w B0 m0.length m0) (hd0 : m0.length ≤ b0)
    (hr1 : Kd.C (Kd.int .i64) w A1 l1.length l1) (hc1 : l1.length ≤ a1) (hs1 : Kd.C (Kd.int .i64) w B1 m1.length m1) (hd1 : m1.length ≤ b1)
    (hr2 : Kd.C (Kd.int .i64) w A2 l2.length l2) (hc2 : l2.length ≤ a2) (hs2 : Kd.C (Kd.int .i64) w B2 m2.length m2) (hd2 : m2.length ≤ b2) :
    Calls Try.prog 4 #[.agg #[.slice A0 l0.length a0, .slice B0 m0.length b0], .agg #[.slice A1 l1.length a1, .slice B1 m1.length b1], .agg #[.slice A2 l2.length a2, .slice B2 m2.length b2]] w fun e w' => e = .returned (.bool true) ∧ Below w.heap.size w w' :=
  broadsidelaw5_RelTells.calls 100 A0 a0 l0 B0 b0 m0 A1 a1 l1 B1 b1 m1 A2 a2 l2 B2 b2 m2 true w hr0 hc0 hs0 hd0 hr1 hc1 hs1 hd1 hr2 hc2 hs2 hd2 (tells_true l0 m0 l1 m1 l2 m2)
end Go.Proofs.Ytfabnapjbgamaaa.MRelTrue
