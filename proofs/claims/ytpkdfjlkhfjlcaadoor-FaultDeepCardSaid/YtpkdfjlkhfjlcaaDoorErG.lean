import Derived.Test.YtpkdfjlkhfjlcaaDoorErD
import Derived.Test.YtpkdfjlkhfjlcaaDoorErF
import Derived.Test.YtpkdfjlkhfjlcaaDoorMFaultDeepx1
namespace Go.Proofs.YtpkdfjlkhfjlcaaDoor.Er
open Go.RowKit Go.Extern.Stop Go.Stop Go.Extern Go.Proofs.YtpkdfjlkhfjlcaaDoorW.PrintWords
set_option linter.unusedVariables false
set_option linter.unusedSimpArgs false
theorem small3 (w : World) : Calls Tryd.prog 53 #[.int .i64 3] w fun ev w' => ev = .returned (.string (⟨#[51]⟩ : ByteArray)) ∧ w = w' := by
  have hs : ∀ w, (Instr.slice 9 (.string (⟨#[48, 49, 50, 51, 52, 53, 54, 55, 56, 57, 97, 98, 99, 100, 101, 102, 103, 104, 105, 106, 107, 108, 109, 110, 111, 112, 113, 114, 115, 116, 117, 118, 119, 120, 121, 122]⟩ : ByteArray)) (some (.int .i64 3)) (some (.int .i64 4)) none).run Tryd.prog w = .ok (.string (⟨#[51]⟩ : ByteArray)) w := fun _ => by kernel_rfl
  go_enter Tryd.func53, Tryd.ntmps53
  go_wp2
  go_ret
  exact ⟨rfl, rfl⟩
theorem itoa3 (w : World) : Calls Tryd.prog 40 #[.int .i64 3] w fun ev w' => ev = .returned (.string (⟨#[51]⟩ : ByteArray)) ∧ w = w' := by
  have h49 : ∀ w, Calls Tryd.prog 49 #[.int .i64 3, .int .i64 10] w fun ev w' => ev = .returned (.string (⟨#[51]⟩ : ByteArray)) ∧ w = w' := fun w => by
    go_enter Tryd.func49, Tryd.ntmps49
    go_wp2_with (go_at_call 53; refine (small3 _).mono ?_; rintro ev w2 ⟨rfl, rfl⟩)
    go_ret
    exact ⟨rfl, rfl⟩
  have h46 : ∀ w, Calls Tryd.prog 46 #[.int .i64 3] w fun ev w' => ev = .returned (.string (⟨#[51]⟩ : ByteArray)) ∧ w = w' := fun w => by
    go_enter Tryd.func46, Tryd.ntmps46
    go_wp2_with (go_at_call 49; refine (h49 _).mono ?_; rintro ev w2 ⟨rfl, rfl⟩)
    go_ret
    exact ⟨rfl, rfl⟩
  go_enter Tryd.func40, Tryd.ntmps40
  go_wp2_with (go_at_call 46; refine (h46 _).mono ?_; rintro ev w2 ⟨rfl, rfl⟩)
  go_ret
  exact ⟨rfl, rfl⟩
theorem small7 (w : World) : Calls Tryd.prog 53 #[.int .i64 7] w fun ev w' => ev = .returned (.string (⟨#[55]⟩ : ByteArray)) ∧ w = w' := by
  have hs : ∀ w, (Instr.slice 9 (.string (⟨#[48, 49, 50, 51, 52, 53, 54, 55, 56, 57, 97, 98, 99, 100, 101, 102, 103, 104, 105, 106, 107, 108, 109, 110, 111, 112, 113, 114, 115, 116, 117, 118, 119, 120, 121, 122]⟩ : ByteArray)) (some (.int .i64 7)) (some (.int .i64 8)) none).run Tryd.prog w = .ok (.string (⟨#[55]⟩ : ByteArray)) w := fun _ => by kernel_rfl
  go_enter Tryd.func53, Tryd.ntmps53
  go_wp2
  go_ret
  exact ⟨rfl, rfl⟩
theorem itoa7 (w : World) : Calls Tryd.prog 40 #[.int .i64 7] w fun ev w' => ev = .returned (.string (⟨#[55]⟩ : ByteArray)) ∧ w = w' := by
  have h49 : ∀ w, Calls Tryd.prog 49 #[.int .i64 7, .int .i64 10] w fun ev w' => ev = .returned (.string (⟨#[55]⟩ : ByteArray)) ∧ w = w' := fun w => by
    go_enter Tryd.func49, Tryd.ntmps49
    go_wp2_with (go_at_call 53; refine (small7 _).mono ?_; rintro ev w2 ⟨rfl, rfl⟩)
    go_ret
    exact ⟨rfl, rfl⟩
  have h46 : ∀ w, Calls Tryd.prog 46 #[.int .i64 7] w fun ev w' => ev = .returned (.string (⟨#[55]⟩ : ByteArray)) ∧ w = w' := fun w => by
    go_enter Tryd.func46, Tryd.ntmps46
    go_wp2_with (go_at_call 49; refine (h49 _).mono ?_; rintro ev w2 ⟨rfl, rfl⟩)
    go_ret
    exact ⟨rfl, rfl⟩
  go_enter Tryd.func40, Tryd.ntmps40
  go_wp2_with (go_at_call 46; refine (h46 _).mono ?_; rintro ev w2 ⟨rfl, rfl⟩)
  go_ret
  exact ⟨rfl, rfl⟩
theorem err7 (w : World) : Calls Tryd.prog 19 #[.int .i64 7] w fun ev w' => ev = .returned (.string (⟨#[102, 117, 108, 108]⟩ : ByteArray)) ∧ Below w.heap.size w w' := by
  go_enter Tryd.func19, Tryd.ntmps19
  go_wp2
  go_ret
  exact ⟨rfl, (Below.refl _ _).alloc (Nat.le_refl _) _⟩
theorem methodErr (h : Value) (w : World) : (Go.method 338 25 h "Error").run Tryd.prog w = .ok (19, h) w := by kernel_rfl
theorem methodErrF (h : Value) (w : World) : (Go.method 338 38 h "Error").run Tryd.prog w = .ok (111, h) w := by kernel_rfl


theorem errT (g : Nat) (v : Value) (w : World) (hg : w.heap[g]? = some (.cells #[.string (⟨#[116, 97, 98, 108, 101]⟩ : ByteArray), .int .i64 7, .iface 25 (.int .i64 7)] 42 (0, 0))) :
    Calls Tryd.prog 111 #[.pointer (some ⟨g, 0, none⟩)] w fun ev w' => ev = .returned (.string (⟨#[116, 97, 98, 108, 101, 32, 55, 58, 32, 102, 117, 108, 108]⟩ : ByteArray)) ∧ Below w.heap.size w w' := by
  have HG := Lib.hid hg
  have mE := methodErr
  have k1 : ∀ w, (binOp .add 9 (.string (⟨#[116, 97, 98, 108, 101]⟩ : ByteArray)) (.string (⟨#[32]⟩ : ByteArray))).run Tryd.prog w = .ok (.string (⟨#[116, 97, 98, 108, 101, 32]⟩ : ByteArray)) w := fun _ => by kernel_rfl
  have k2 : ∀ w, (binOp .add 9 (.string (⟨#[116, 97, 98, 108, 101, 32]⟩ : ByteArray)) (.string (⟨#[55]⟩ : ByteArray))).run Tryd.prog w = .ok (.string (⟨#[116, 97, 98, 108, 101, 32, 55]⟩ : ByteArray)) w := fun _ => by kernel_rfl
  have k3 : ∀ w, (binOp .add 9 (.string (⟨#[116, 97, 98, 108, 101, 32, 55]⟩ : ByteArray)) (.string (⟨#[58, 32]⟩ : ByteArray))).run Tryd.prog w = .ok (.string (⟨#[116, 97, 98, 108, 101, 32, 55, 58, 32]⟩ : ByteArray)) w := fun _ => by kernel_rfl
  have k4 : ∀ w, (binOp .add 9 (.string (⟨#[116, 97, 98, 108, 101, 32, 55, 58, 32]⟩ : ByteArray)) (.string (⟨#[102, 117, 108, 108]⟩ : ByteArray))).run Tryd.prog w = .ok (.string (⟨#[116, 97, 98, 108, 101, 32, 55, 58, 32, 102, 117, 108, 108]⟩ : ByteArray)) w := fun _ => by kernel_rfl
  have c2 : w.cell? ⟨g, 2, none⟩ = some (.iface 25 (.int .i64 7)) := (cell_of hg 2).trans rfl
  skip
  clear hg
  go_enter Tryd.func111, Tryd.ntmps111
  go_upto_region 4 with (go_at_call 19; refine (err7 _).mono ?_; rintro ev w2 ⟨rfl, hb⟩; have HB := Lib.hid hb; clear hb)
  have d0 : w2.cell? ⟨g, 0, none⟩ = some (.string (⟨#[116, 97, 98, 108, 101]⟩ : ByteArray)) := (cell_of ((HB.out.block _ (lt_of_get HG.out)).trans HG.out) 0).trans rfl
  have d1 : w2.cell? ⟨g, 1, none⟩ = some (.int .i64 7) := (cell_of ((HB.out.block _ (lt_of_get HG.out)).trans HG.out) 1).trans rfl
  go_quiet ((go_at_call 40; exact Calls.quiet_of_same ((itoa7 _).mono fun _ _ h_ => ⟨h_.1, h_.2.symm⟩)))
  go_wp2
  go_ret
  exact ⟨rfl, HB.out.trans ((pw_below_drewN (Below.refl _ _) _).mono HB.out.size)⟩
theorem errN (g : Nat) (v : Value) (w : World) (g0 : Nat) (h0 : w.heap[g0]? = some (.cells #[.string (⟨#[116, 97, 98, 108, 101]⟩ : ByteArray), .int .i64 7, .iface 25 (.int .i64 7)] 42 (0, 0))) (hg : w.heap[g]? = some (.cells #[.string (⟨#[110, 101, 116]⟩ : ByteArray), .int .i64 3, .iface 38 (.pointer (some ⟨g0, 0, none⟩))] 42 (0, 0))) :
    Calls Tryd.prog 111 #[.pointer (some ⟨g, 0, none⟩)] w fun ev w' => ev = .returned (.string (⟨#[110, 101, 116, 32, 51, 58, 32, 116, 97, 98, 108, 101, 32, 55, 58, 32, 102, 117, 108, 108]⟩ : ByteArray)) ∧ Below w.heap.size w w' := by
  have HG := Lib.hid hg
  have mE := methodErrF
  have k1 : ∀ w, (binOp .add 9 (.string (⟨#[110, 101, 116]⟩ : ByteArray)) (.string (⟨#[32]⟩ : ByteArray))).run Tryd.prog w = .ok (.string (⟨#[110, 101, 116, 32]⟩ : ByteArray)) w := fun _ => by kernel_rfl
  have k2 : ∀ w, (binOp .add 9 (.string (⟨#[110, 101, 116, 32]⟩ : ByteArray)) (.string (⟨#[51]⟩ : ByteArray))).run Tryd.prog w = .ok (.string (⟨#[110, 101, 116, 32, 51]⟩ : ByteArray)) w := fun _ => by kernel_rfl
  have k3 : ∀ w, (binOp .add 9 (.string (⟨#[110, 101, 116, 32, 51]⟩ : ByteArray)) (.string (⟨#[58, 32]⟩ : ByteArray))).run Tryd.prog w = .ok (.string (⟨#[110, 101, 116, 32, 51, 58, 32]⟩ : ByteArray)) w := fun _ => by kernel_rfl
  have k4 : ∀ w, (binOp .add 9 (.string (⟨#[110, 101, 116, 32, 51, 58, 32]⟩ : ByteArray)) (.string (⟨#[116, 97, 98, 108, 101, 32, 55, 58, 32, 102, 117, 108, 108]⟩ : ByteArray))).run Tryd.prog w = .ok (.string (⟨#[110, 101, 116, 32, 51, 58, 32, 116, 97, 98, 108, 101, 32, 55, 58, 32, 102, 117, 108, 108]⟩ : ByteArray)) w := fun _ => by kernel_rfl
  have c2 : w.cell? ⟨g, 2, none⟩ = some (.iface 38 (.pointer (some ⟨g0, 0, none⟩))) := (cell_of hg 2).trans rfl
  have H0 := Lib.hid h0
  clear h0
  clear hg
  go_enter Tryd.func111, Tryd.ntmps111
  go_upto_region 4 with (go_at_call 111; refine (errT _ v _ H0.out).mono ?_; rintro ev w2 ⟨rfl, hb⟩; have HB := Lib.hid hb; clear hb)
  have d0 : w2.cell? ⟨g, 0, none⟩ = some (.string (⟨#[110, 101, 116]⟩ : ByteArray)) := (cell_of ((HB.out.block _ (lt_of_get HG.out)).trans HG.out) 0).trans rfl
  have d1 : w2.cell? ⟨g, 1, none⟩ = some (.int .i64 3) := (cell_of ((HB.out.block _ (lt_of_get HG.out)).trans HG.out) 1).trans rfl
  go_quiet ((go_at_call 40; exact Calls.quiet_of_same ((itoa3 _).mono fun _ _ h_ => ⟨h_.1, h_.2.symm⟩)))
  go_wp2
  go_ret
  exact ⟨rfl, HB.out.trans ((pw_below_drewN (Below.refl _ _) _).mono HB.out.size)⟩
theorem str_C {W : World} {base c : Nat} {A0 : Option Addr} {l : List ByteArray} (h : W.ownsRow base 9 1 (.slice A0 l.length c) l.length (l.map Value.string)) (hm : l.length ≤ 1000000) : Kd.C Kd.string W A0 l.length l := by
  obtain ⟨A1, c1, he, hl, hc, hat⟩ := own_at h
  injection he with h1 h2 h3
  subst h1
  refine ⟨rfl, by omega, fun hp => ?_⟩
  cases l with
  | nil => simp at hp
  | cons x r =>
    obtain ⟨ad, e0, _⟩ := hat 0 (.string x) rfl
    refine ⟨ad, e0, fun j p hj => ⟨[.string p], rfl, rfl, fun i u hu => ?_⟩⟩
    obtain ⟨ad2, e2, h4⟩ := hat j (.string p) (by rw [List.getElem?_map, hj]; rfl)
    rw [e0] at e2
    cases e2
    cases i with
    | zero => simp at hu; subst hu; show W.cell? (ad.add (j * 1 + 0)) = _; rw [Nat.mul_one, Nat.add_zero]; exact h4
    | succ i => simp at hu
theorem lit_C {W : World} {g : Nat} (l : List ByteArray) (h : W.heap[g]? = some (.cells (l.map Value.string).toArray 9 (0, 0))) (hm : l.length ≤ 1000000) : Kd.C Kd.string W (some ⟨g, 0, none⟩) l.length l :=
  str_C (base := 0) (c := l.length) ⟨by simp, .inr ⟨g, l.length, _, rfl, Nat.zero_le _, h, Nat.le_refl _, by simp only [maxLen]; omega, by simp, by rw [List.take_of_length_le (by simp)]⟩⟩ hm
theorem same_lit {W : World} {base c : Nat} {A0 : Option Addr} (h : W.ownsRow base 9 1 (.slice A0 2 c) 2 ([(⟨#[110, 101, 116]⟩ : ByteArray), (⟨#[116, 97, 98, 108, 101]⟩ : ByteArray)].map Value.string)) (hc : 2 ≤ c) :
    Calls Tryd.prog 14 #[.slice A0 2 c, .slice (some ⟨W.heap.size, 0, none⟩) 2 2] (W.alloc (.cells #[.string (⟨#[110, 101, 116]⟩ : ByteArray), .string (⟨#[116, 97, 98, 108, 101]⟩ : ByteArray)] 9)) fun e w' => e = .returned (.bool true) ∧ Below W.heap.size W w' := by
  have hb : Below W.heap.size W (W.alloc (.cells #[.string (⟨#[110, 101, 116]⟩ : ByteArray), .string (⟨#[116, 97, 98, 108, 101]⟩ : ByteArray)] 9)) := (Below.refl _ _).alloc (Nat.le_refl _) _
  refine (MFaultDeep.broadsidebook_Same_string.calls 5 A0 c [(⟨#[110, 101, 116]⟩ : ByteArray), (⟨#[116, 97, 98, 108, 101]⟩ : ByteArray)] (some ⟨W.heap.size, 0, none⟩) 2 [(⟨#[110, 101, 116]⟩ : ByteArray), (⟨#[116, 97, 98, 108, 101]⟩ : ByteArray)] true _ (Kd.C_below (str_C (l := [(⟨#[110, 101, 116]⟩ : ByteArray), (⟨#[116, 97, 98, 108, 101]⟩ : ByteArray)]) h (by simp)) hb) hc (lit_C [(⟨#[110, 101, 116]⟩ : ByteArray), (⟨#[116, 97, 98, 108, 101]⟩ : ByteArray)] (get_new _ _) (by simp)) (Nat.le_refl _) (by kernel_rfl)).mono ?_
  rintro e w' ⟨rfl, h2⟩
  exact ⟨rfl, hb.trans (h2.below.mono hb.size)⟩
set_option maxHeartbeats 4000000 in
set_option maxRecDepth 100000 in
theorem fr_calls (w : World) (ht : Typ w) : Calls Tryd.prog 3 #[] w fun e w' => e = .returned (.bool true) ∧ Below w.heap.size w w' := by
  have HT := Lib.hid ht
  have N1 : Calls Tryd.prog 12 #[.string (⟨#[116, 97, 98, 108, 101]⟩ : ByteArray), .int .i64 7, .iface 25 (.int .i64 7)] w fun ev w' => ev = .returned (.iface 38 (.pointer (some ⟨w.heap.size, 0, none⟩))) ∧ w' = w.alloc (.cells #[.string (⟨#[116, 97, 98, 108, 101]⟩ : ByteArray), .int .i64 7, .iface 25 (.int .i64 7)] 42) := new_any _ _ (.no 7) w
  have N2 : Calls Tryd.prog 12 #[.string (⟨#[110, 101, 116]⟩ : ByteArray), .int .i64 3, .iface 38 (.pointer (some ⟨w.heap.size, 0, none⟩))] (w.alloc (.cells #[.string (⟨#[116, 97, 98, 108, 101]⟩ : ByteArray), .int .i64 7, .iface 25 (.int .i64 7)] 42)) fun ev w' => ev = .returned (.iface 38 (.pointer (some ⟨w.heap.size + 1, 0, none⟩))) ∧ w' = (w.alloc (.cells #[.string (⟨#[116, 97, 98, 108, 101]⟩ : ByteArray), .int .i64 7, .iface 25 (.int .i64 7)] 42)).alloc (.cells #[.string (⟨#[110, 101, 116]⟩ : ByteArray), .int .i64 3, .iface 38 (.pointer (some ⟨w.heap.size, 0, none⟩))] 42) := by
    have h_ := new_any (⟨#[110, 101, 116]⟩ : ByteArray) 3 (.fault w.heap.size (⟨#[116, 97, 98, 108, 101]⟩ : ByteArray) 7 (.no 7)) (w.alloc (.cells #[.string (⟨#[116, 97, 98, 108, 101]⟩ : ByteArray), .int .i64 7, .iface 25 (.int .i64 7)] 42))
    rw [show (w.alloc (.cells #[.string (⟨#[116, 97, 98, 108, 101]⟩ : ByteArray), .int .i64 7, .iface 25 (.int .i64 7)] 42)).heap.size = w.heap.size + 1 from by simp] at h_
    exact h_
  have HN1 := Lib.hid N1
  have HN2 := Lib.hid N2
  have hok : (Err.fault w.heap.size (⟨#[116, 97, 98, 108, 101]⟩ : ByteArray) 7 (.no 7)).ok (w.alloc (.cells #[.string (⟨#[116, 97, 98, 108, 101]⟩ : ByteArray), .int .i64 7, .iface 25 (.int .i64 7)] 42)) := new_ok _ _ (.no 7) w trivial
  have hok2 : (Err.fault (w.heap.size + 1) (⟨#[110, 101, 116]⟩ : ByteArray) 3 (.fault w.heap.size (⟨#[116, 97, 98, 108, 101]⟩ : ByteArray) 7 (.no 7))).ok ((w.alloc (.cells #[.string (⟨#[116, 97, 98, 108, 101]⟩ : ByteArray), .int .i64 7, .iface 25 (.int .i64 7)] 42)).alloc (.cells #[.string (⟨#[110, 101, 116]⟩ : ByteArray), .int .i64 3, .iface 38 (.pointer (some ⟨w.heap.size, 0, none⟩))] 42)) := by
    have h_ := new_ok (⟨#[110, 101, 116]⟩ : ByteArray) 3 (.fault w.heap.size (⟨#[116, 97, 98, 108, 101]⟩ : ByteArray) 7 (.no 7)) _ hok
    rw [show (w.alloc (.cells #[.string (⟨#[116, 97, 98, 108, 101]⟩ : ByteArray), .int .i64 7, .iface 25 (.int .i64 7)] 42)).heap.size = w.heap.size + 1 from by simp] at h_
    exact h_
  have HOK := Lib.hid hok2
  clear N1 N2 ht hok hok2
  go_enter Tryd.func3, Tryd.ntmps3
  go_wp2_with fail
  refine HN1.out.mono ?_
  rintro ev w1 ⟨rfl, rfl⟩
  go_wp2_with fail
  refine HN2.out.mono ?_
  rintro ev w2 ⟨rfl, rfl⟩
  go_upto_region 2 with (fail)
  obtain ⟨W, hW⟩ : ∃ W, W = (w.alloc (.cells #[.string (⟨#[116, 97, 98, 108, 101]⟩ : ByteArray), .int .i64 7, .iface 25 (.int .i64 7)] 42)).alloc (.cells #[.string (⟨#[110, 101, 116]⟩ : ByteArray), .int .i64 3, .iface 38 (.pointer (some ⟨w.heap.size, 0, none⟩))] 42) := ⟨_, rfl⟩
  rw [← hW] at HOK ⊢
  have HBW : Hid (Below w.heap.size w W) := Lib.hid (by rw [hW]; exact ((Below.refl _ _).alloc (Nat.le_refl _) _).alloc (by simp) _)
  have HTW : Hid (Typ W) := Lib.hid (HT.out.below HBW.out)
  have HB : Hid (Below W.heap.size W W) := Lib.hid (Below.refl _ _)
  clear hW HN1 HN2 HT
  generalize w.heap.size + 1 = g1 at HOK ⊢
  generalize hg0 : w.heap.size = g0 at HOK ⊢
  have HG0 := Lib.hid hg0
  clear hg0
  have mE := methodErrF
  have K1 : Hid (∀ w', Below W.heap.size W w' → Calls Tryd.prog 13 #[.iface 38 (.pointer (some ⟨g1, 0, none⟩))] w' fun ev w2 => ev = .returned (.int .i64 7) ∧ Below w'.heap.size w' w2) := Lib.hid (fun w' hb => kind_any _ w' (HTW.out.below hb) (Err.okBelow hb HOK.out))
  have K2 : Hid (∀ w', Below W.heap.size W w' → Calls Tryd.prog 15 #[.iface 38 (.pointer (some ⟨g1, 0, none⟩))] w' fun ev w2 => ∃ v, ev = .returned v ∧ w2.ownsRow w'.heap.size 9 1 v 2 ([(⟨#[110, 101, 116]⟩ : ByteArray), (⟨#[116, 97, 98, 108, 101]⟩ : ByteArray)].map Value.string) ∧ Below w'.heap.size w' w2) := Lib.hid (fun w' hb => trace_any _ w' (HTW.out.below hb) (Err.okBelow hb HOK.out) (by simp [Err.size]))
  have K3 : Hid (∀ w', Below W.heap.size W w' → Calls Tryd.prog 16 #[.iface 38 (.pointer (some ⟨g1, 0, none⟩))] w' fun ev w2 => ev = .returned (.int .i64 3) ∧ Below w'.heap.size w' w2) := Lib.hid (fun w' hb => place_any _ w' (HTW.out.below hb) (Err.okBelow hb HOK.out))
  have K4 : Hid (∀ w', Below W.heap.size W w' → Calls Tryd.prog 17 #[.iface 38 (.pointer (some ⟨g1, 0, none⟩)), .iface 25 (.int .i64 7)] w' fun ev w2 => ev = .returned (.bool true) ∧ w' = w2) := Lib.hid (fun w' hb => Is_any _ (.no 7) w' (Err.okBelow hb HOK.out) trivial)
  have K5 : Hid (∀ w', Below W.heap.size W w' → Calls Tryd.prog 111 #[.pointer (some ⟨g1, 0, none⟩)] w' fun ev w2 => ev = .returned (.string (⟨#[110, 101, 116, 32, 51, 58, 32, 116, 97, 98, 108, 101, 32, 55, 58, 32, 102, 117, 108, 108]⟩ : ByteArray)) ∧ Below w'.heap.size w' w2) := Lib.hid (fun w' hb => errN g1 .nilIface w' g0 ((hb.block _ (lt_of_get HOK.out.2.1)).trans HOK.out.2.1) ((hb.block _ (lt_of_get HOK.out.1)).trans HOK.out.1))
  go_wp2_with (first
    | (go_at_call 111; refine (K5.out _ HB.out).mono ?_; rintro ev w9 ⟨rfl, hb⟩; have n_ := Lib.hid (HB.out.trans (hb.mono HB.out.size)); clear HB hb; have HB := n_; clear n_)
    | (go_at_call 13; refine (K1.out _ HB.out).mono ?_; rintro ev w9 ⟨rfl, hb⟩; have n_ := Lib.hid (HB.out.trans (hb.mono HB.out.size)); clear HB hb; have HB := n_; clear n_)
    | (go_at_call 15; refine (K2.out _ HB.out).mono ?_; rintro ev w9 ⟨v, rfl, ho, hb⟩; have n_ := Lib.hid (HB.out.trans (hb.mono HB.out.size)); clear HB hb; have HB := n_; clear n_; obtain ⟨A0, c0, rfl, _, hnc, _⟩ := own_at ho; have HSM := Lib.hid (same_lit ho hnc); clear ho hnc)
    | (go_at_call 14; refine HSM.out.mono ?_; rintro ev w9 ⟨rfl, hb⟩; have n_ := Lib.hid (HB.out.trans (hb.mono HB.out.size)); clear HB hb; have HB := n_; clear n_)
    | (go_at_call 16; refine (K3.out _ HB.out).mono ?_; rintro ev w9 ⟨rfl, hb⟩; have n_ := Lib.hid (HB.out.trans (hb.mono HB.out.size)); clear HB hb; have HB := n_; clear n_)
    | (go_at_call 12; refine (new_nil _ _ _).mono ?_; rintro ev w9 ⟨rfl, rfl⟩)
    | (go_at_call 17; refine (K4.out _ HB.out).mono ?_; rintro ev w9 ⟨rfl, rfl⟩))
  go_ret
  exact ⟨rfl, HBW.out.trans (HB.out.mono HBW.out.size)⟩
end Go.Proofs.YtpkdfjlkhfjlcaaDoor.Er
