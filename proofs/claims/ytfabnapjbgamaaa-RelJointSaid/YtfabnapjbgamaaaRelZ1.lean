import Derived.Test.YtfabnapjbgamaaaRelZ
import Derived.Test.YtfabnapjbgamaaaRelY0
namespace Go.Proofs.Ytfabnapjbgamaaa.MRelTrue
open Go.RowKit Go.Lib Go.Proofs.YtfabnapjbgamaaaW.PrintWords Go.Proofs.YtfabnapjbgamaaaW.PrintLast Go.Proofs.YtfabnapjbgamaaaW.PrintMore
set_option linter.unusedVariables false
set_option linter.unusedSimpArgs false
theorem joint_full {a b : List S23} (ha : Nice nms a) (hb : Nice nms b) {res : List S23} (h1 : pred_Make.f 10 (a ++ b) = some (if mt a b = true then some res else none)) (h : mt a b = true) :
    Nice nms res ∧ (∀ x ∈ a, ∃ r ∈ res, r.f0 = x.f0 ∧ widB x r = true) ∧ (∀ y ∈ b, ∃ r ∈ res, r.f0 = y.f0 ∧ widB y r = true) := by
  obtain ⟨res2, g1, g2⟩ := make_char nms_ok ha hb
  rw [g1, if_pos h, if_pos h] at h1
  obtain rfl : res2 = res := by simpa using h1
  rw [if_pos h] at g1
  unfold pred_Make.f at g1
  rw [l1_ok (a ++ b) (fun c hc => (List.mem_append.1 hc).elim (ha.ok c) (hb.ok c)) (fun c hc => (nms_ok _ ((List.mem_append.1 hc).elim (ha.name c) (hb.name c))).1)] at g1
  simp only [Option.bind_some, if_true] at g1
  rw [l2_app a [] b (by simpa using ha.rises) (by simpa using ha.len), List.nil_append] at g1
  obtain ⟨q1, q2, q3, q4⟩ := l2_full (ns := nms) b a res2 ha.rises (fun x hx => ⟨ha.ok x hx, ha.name x hx⟩) (fun y hy => ⟨hb.ok y hy, hb.name y hy⟩) g1
  exact ⟨{ rises := q1, ok := fun c hc => (q2 c hc).1, len := g2 h, name := fun c hc => (q2 c hc).2 }, q3, q4⟩
theorem joint_true (l0 m0 l1 m1 : List Int) : broadsidelaw5_RelJoint.f 100 l0 m0 l1 m1 = some true := by
  obtain ⟨a, ha1, ha⟩ := predK l0 m0 100 (by omega)
  obtain ⟨b, hb1, hb⟩ := predK l1 m1 100 (by omega)
  obtain ⟨res, h1, h2, h3⟩ := ref_make nms_ok ha hb
  have ha5 := ha.len
  have hb5 := hb.len
  have hj : rel_Joint.f 100 a b = some (if mt a b = true then res.map att else [], mt a b) := by
    unfold rel_Joint.f
    rw [if_pos (by omega), h3 100 (by omega)]
    cases hm : mt a b
    · rfl
    · simp only [Option.bind_some, if_true]
      rw [samp_char res (by have := (joint_full ha hb (h3 10 (by omega)) hm).1.len; omega) 100 (by omega)]
      rfl
  unfold broadsidelaw5_RelJoint.f
  rw [ha1]
  simp only [Option.bind_some]
  rw [hb1]
  simp only [Option.bind_some]
  rw [hj]
  simp only [Option.bind_some, List.nil_append, List.length_nil, Nat.zero_add]
  rw [if_pos (by omega), if_pos (by omega), h1]
  simp only [Option.bind_some]
  cases hm : mt a b
  · have hj0 : ∀ p, broadsidelaw5_RelJoint.j0 100 a b [] false p false = some true := fun p => by
      rw [broadsidelaw5_RelJoint.j0, if_neg (by simp), if_neg (by simp)]
      rfl
    cases hf : fits a b
    · simp only [Bool.false_eq_true, if_false]
      exact hj0 _
    · have hl := h2 hf
      unfold mt at hm
      rw [hf, Bool.true_and] at hm
      have hgt : ¬ ((res.length : Int) ≤ 5) := by
        rw [hl]
        have := of_decide_eq_false hm
        omega
      simp only [if_true, Bool.false_eq_true, if_false]
      rw [decide_eq_false hgt]
      exact hj0 _
  · obtain ⟨n1, n2, n3⟩ := joint_full ha hb (h3 10 (by omega)) hm
    have hr5 := n1.len
    have hf : fits a b = true := by
      unfold mt at hm
      rw [Bool.and_eq_true] at hm
      exact hm.1
    rw [hf]
    simp only [if_true]
    rw [decide_eq_true (show (res.length : Int) ≤ 5 by omega)]
    have m1 : mch res (res.map att) = true := mch_samp n1.rises n1.ok (fun x hx => ⟨x, hx, rfl, widB_refl x⟩)
    have m2 : mch a (res.map att) = true := mch_samp n1.rises n1.ok n2
    have m3 : mch b (res.map att) = true := mch_samp n1.rises n1.ok n3
    have c2 : cv a res = true := (cv_iff n1.rises).2 n2
    have c3 : cv b res = true := (cv_iff n1.rises).2 n3
    rw [show (true != true) = false from rfl, broadsidelaw5_RelJoint.j0, if_neg (by simp), if_pos rfl]
    rw [match_char res _ (by simp; omega) (by omega) 99 (by omega), m1]
    simp only [Option.bind_some, if_true]
    rw [match_char a _ (by simp; omega) (by omega) 99 (by omega), m2]
    simp only [Option.bind_some, if_true]
    rw [match_char b _ (by simp; omega) (by omega) 99 (by omega), m3]
    simp only [Option.bind_some, if_true]
    rw [right_samp n1 99 (by omega)]
    simp only [Option.bind_some, if_true]
    rw [covers_char nms_ok ha n1, c2]
    simp only [Option.bind_some, if_true]
    rw [covers_char nms_ok hb n1, c3]
    simp only [Option.bind_some, if_true]
    rw [sampK hr5 99 (by omega)]
    simp only [Option.bind_some]
    rw [match_char res _ (by simp; omega) (by omega) 99 (by omega), m1]
    rfl
theorem relJoint_calls (A0 B0 : Option Addr) (a0 b0 : Nat) (l0 m0 : List Int) (A1 B1 : Option Addr) (a1 b1 : Nat) (l1 m1 : List Int) (w : World)
    (hr0 : Kd.C (Kd.int .i64) w A0 l0.length l0) (hc0 : l0.length ≤ a0) (hs0 : Kd.C (Kd.int .i64) w B0 m0.length m0) (hd0 : m0.length ≤ b0)
    (hr1 : Kd.C (Kd.int .i64) w A1 l1.length l1) (hc1 : l1.length ≤ a1) (hs1 : Kd.C (Kd.int .i64) w B1 m1.length m1) (hd1 : m1.length ≤ b1) :
    Calls Try.prog 9 #[.agg #[.slice A0 l0.length a0, .slice B0 m0.length b0], .agg #[.slice A1 l1.length a1, .slice B1 m1.length b1]] w fun e w' => e = .returned (.bool true) ∧ Below w.heap.size w w' :=
  broadsidelaw5_RelJoint.calls 100 A0 a0 l0 B0 b0 m0 A1 a1 l1 B1 b1 m1 true w hr0 hc0 hs0 hd0 hr1 hc1 hs1 hd1 (joint_true l0 m0 l1 m1)
end Go.Proofs.Ytfabnapjbgamaaa.MRelTrue
