import Derived.Test.YtfabnapjbgamaaaGreatDoorPrL
import Derived.Test.YtfabnapjbgamaaaGreatDoorPrR
import Derived.Test.YtfabnapjbgamaaaGreatDoorRg
namespace Go.Proofs.YtfabnapjbgamaaaGreatDoor.MPred
open Go.RowKit Go.Lib Go.Proofs.YtfabnapjbgamaaaGreatDoorW.PrintWords Go.Proofs.YtfabnapjbgamaaaGreatDoorW.PrintLast Go.Proofs.YtfabnapjbgamaaaGreatDoorW.PrintMore
set_option linter.unusedVariables false
set_option linter.unusedSimpArgs false
attribute [local go_sem] max_two min_two
attribute [local go_sem high] eqA23
/-! ### PredForms: function 6 -/
theorem same_n (k : Nat) (A0 : Option Addr) (n0 c0 : Nat) (l0 : List S23) (e0 : l0.length = n0) (A1 : Option Addr) (n1 c1 : Nat) (l1 : List S23) (e1 : l1.length = n1) (r : Bool) (w : World) (hr0 : Kd.C k23 w A0 n0 l0) (hc0 : n0 ≤ c0) (hr1 : Kd.C k23 w A1 n1 l1) (hc1 : n1 ≤ c1) (h : api_Constraint_19.f k l0 l1 = some r) :
    Calls Tryz.prog 19 #[.slice A0 n0 c0, .slice A1 n1 c1] w fun e w' => e = .returned (.bool r) ∧ Below w.heap.size w w' := by
  subst e0
  subst e1
  exact (api_Constraint_19.calls k A0 c0 l0 A1 c1 l1 r w hr0 hc0 hr1 hc1 h).mono (fun e w' hh => ⟨hh.1, by first | exact hh.2 | exact hh.2.below⟩)
theorem k23_KM {w : World} {base : Nat} (x : S23) (cs : List Value) (h : k23.K w x cs) : k23.M w base (fun _ => False) x cs := by
  rw [k23_open h]
  exact k23_mkM w base _ x
theorem k23_empty (w : World) (base : Nat) (hb : base ≤ w.heap.size) : k23.R 23 (w.alloc (.cells #[] 23)) base (fun _ => True) (.slice (some ⟨w.heap.size, 0, none⟩) 0 0) [] := by
  have := World.ownsRow_made (base := base) (size := 5) (e := 23) w #[] 0 hb (Nat.zero_le _) rfl
  exact R_of_flat (by simpa [flat23] using this)
noncomputable def frm1 : Array Oper := opsOf Tryz.f6 1
noncomputable def frm1t : List Rg.Ent := [⟨0, 0, some 18, none, Op.load 52 (Operand.tmp 3)⟩,
  ⟨1, 1, some 19, none, Op.call { callee := Callee.value (Operand.func 22), args := #[Operand.tmp 18], argTypes := #[52] }⟩,
  ⟨0, 0, some 20, none, Op.load 52 (Operand.tmp 4)⟩,
  ⟨6, 4, some 21, none, Op.call { callee := Callee.value (Operand.func 22), args := #[Operand.tmp 20], argTypes := #[52] }⟩,
  ⟨11, 2, some 7, none, Op.assign (Operand.tmp 19)⟩,
  ⟨31, 8, some 8, none, Op.assign (Operand.tmp 21)⟩]
theorem frm1T : Rg.Tabd .any frm1 6 frm1t := ⟨by kernel_rfl, by kernel_rfl, by kernel_rfl⟩
noncomputable def frm4 : Array Oper := opsOf Tryz.f6 4
noncomputable def frm4t : List Rg.Ent := [⟨0, 0, some 32, none, Op.buildSlice 25 0 #[]⟩,
  ⟨0, 0, some 33, none, Op.move (Operand.tmp 7)⟩,
  ⟨0, 0, some 34, none, Op.move (Operand.tmp 11)⟩,
  ⟨6, 6, some 35, none, Op.slice 25 (Operand.tmp 33) (some (Operand.tmp 34)) none none⟩,
  ⟨9, 9, some 36, none, Op.call { callee := Callee.builtin Builtin.append, args := #[Operand.tmp 32, Operand.tmp 35], argTypes := #[25, 25] }⟩,
  ⟨0, 0, some 37, none, Op.move (Operand.tmp 7)⟩,
  ⟨0, 0, some 38, none, Op.move (Operand.tmp 11)⟩,
  ⟨96, 96, some 39, none, Op.slice 25 (Operand.tmp 37) none (some (Operand.tmp 38)) none⟩,
  ⟨144, 144, some 40, none, Op.call { callee := Callee.builtin Builtin.append, args := #[Operand.tmp 36, Operand.tmp 39], argTypes := #[25, 25] }⟩,
  ⟨256, 256, some 41, none, Op.call { callee := Callee.value (Operand.func 9), args := #[Operand.tmp 40], argTypes := #[25] }⟩,
  ⟨512, 512, some 31, none, Op.move (Operand.tmp 41)⟩,
  ⟨1024, 1024, some 42, none, Op.extract (Operand.tmp 31) 0⟩,
  ⟨1024, 1024, some 43, none, Op.extract (Operand.tmp 31) 1⟩,
  ⟨4095, 2048, some 12, none, Op.assign (Operand.tmp 42)⟩,
  ⟨16383, 4096, some 13, none, Op.assign (Operand.tmp 43)⟩]
theorem frm4T : Rg.Tabd .any frm4 15 frm4t := ⟨by kernel_rfl, by kernel_rfl, by kernel_rfl⟩
set_option maxHeartbeats 8000000 in
set_option maxRecDepth 1000000 in
theorem Forms.walk (A00 : Option Addr) (c00 : Nat) (l00 : List Int) (A01 : Option Addr) (c01 : Nat) (l01 : List Int) (A10 : Option Addr) (c10 : Nat) (l10 : List Int) (A11 : Option Addr) (c11 : Nat) (l11 : List Int) (cut : Int) (p q : List S23) (c : Nat) (b : Bool) (sp sq : ByteArray) (w : World) (HTAB : Aside0 (Val.Tab w)) (HTYP : Aside0 (Er.Typ w))
    (hr00 : Kd.C (Kd.int .i64) w A00 l00.length l00) (hc00 : l00.length ≤ c00) (hr01 : Kd.C (Kd.int .i64) w A01 l01.length l01) (hc01 : l01.length ≤ c01) (hr10 : Kd.C (Kd.int .i64) w A10 l10.length l10) (hc10 : l10.length ≤ c10) (hr11 : Kd.C (Kd.int .i64) w A11 l11.length l11) (hc11 : l11.length ≤ c11) (hpl : p.length ≤ 5) (hql : q.length ≤ 5)
    (hP : broadsidekeep_Pred_Pred.f 20 l00 l01 = some p) (hQ_ : broadsidekeep_Pred_Pred.f 20 l10 l11 = some q) (hc : c ≤ p.length) (hW : broadsidebook_Within.f cut 0 (p.length : Int) = some (c : Int))
    (hM1 : pred_MakeE.f 30 p = some (.ok p)) (hM2 : pred_MakeE.f 30 (p.drop c ++ p.take c) = some (.ok p)) (hM3 : pred_MakeE.f 30 (p ++ p) = some (.ok p)) (hM4 : pred_MakeE.f 30 [] = some (.ok []))
    (hS1 : api_Constraint_19.f 30 p p = some true) (hS2 : api_Constraint_19.f 30 p q = some b) (hS3 : pred_Same.f 30 p q = some b) (hR1 : pred_Right.f 30 p = some true) (hY1 : pred_Say.f 30 p = some sp) (hY2 : pred_Say.f 30 q = some sq) (hYE : (sp.toList == sq.toList) = b) :
    Calls Tryz.prog 6 #[.agg #[.slice A00 l00.length c00, .slice A01 l01.length c01], .agg #[.slice A10 l10.length c10, .slice A11 l11.length c11], .int .i64 cut] w fun e w' => e = .returned (.bool true) ∧ Below w.heap.size w w' := by
  have hu23 := Tryz.underlying23
  have hu25 := Tryz.underlying25
  have hu52 := Tryz.underlying52
  have P_ := Aside0.mk hP
  have Q_ := Aside0.mk hQ_
  have W_ := Aside0.mk hW
  have M1 := Aside0.mk hM1
  have M2 := Aside0.mk hM2
  have M3 := Aside0.mk hM3
  have M4 := Aside0.mk hM4
  have S1 := Aside0.mk hS1
  have S2 := Aside0.mk hS2
  have S3 := Aside0.mk hS3
  have R1 := Aside0.mk hR1
  have Y1 := Aside0.mk hY1
  have Y2 := Aside0.mk hY2
  have YE := Aside0.mk hYE
  have F00 := Aside0.mk hr00
  have F01 := Aside0.mk hr01
  have F10 := Aside0.mk hr10
  have F11 := Aside0.mk hr11
  clear hP hQ_ hW hM1 hM2 hM3 hM4 hS1 hS2 hS3 hR1 hY1 hY2 hYE hr00 hr01 hr10 hr11
  have HB := Aside0.mk (Below.refl w.heap.size w)
  go_enter Tryz.func6, Tryz.ntmps6
  go_upto_region 1 with (fail)
  have k3 : ((w.alloc (.cells #[.slice A00 l00.length c00, .slice A01 l01.length c01] 52)).alloc (.cells #[.slice A10 l10.length c10, .slice A11 l11.length c11] 52)).heap[w.heap.size]? = some (.cells #[.slice A00 l00.length c00, .slice A01 l01.length c01] 52 (0, 0)) := pred_Both.up (heap_alloc_new w _) _
  have k4 : ((w.alloc (.cells #[.slice A00 l00.length c00, .slice A01 l01.length c01] 52)).alloc (.cells #[.slice A10 l10.length c10, .slice A11 l11.length c11] 52)).heap[w.heap.size + 1]? = some (.cells #[.slice A10 l10.length c10, .slice A11 l11.length c11] 52 (0, 0)) := pred_Both.top _ _ (by simp)
  have HBn := Aside0.mk (below_alloc (below_alloc HB.out (.cells #[.slice A00 l00.length c00, .slice A01 l01.length c01] 52)) (.cells #[.slice A10 l10.length c10, .slice A11 l11.length c11] 52)); clear HB; have HB := HBn; clear HBn
  generalize (w.alloc (.cells #[.slice A00 l00.length c00, .slice A01 l01.length c01] 52)).alloc (.cells #[.slice A10 l10.length c10, .slice A11 l11.length c11] 52) = W1 at k3 k4 HB ⊢
  generalize w.heap.size + 1 = g4 at k4 ⊢
  generalize hg3 : w.heap.size = g3 at k3 ⊢
  have LD3 : Aside0 (∀ w', Below W1.heap.size W1 w' → (Instr.loadAt 52 (.pointer (some ⟨g3, 0, none⟩))).run Tryz.prog w' = .ok (.agg #[.slice A00 l00.length c00, .slice A01 l01.length c01]) w') := ⟨fun w' hs => by
    have k := (hs.block _ (blk_lt k3)).trans k3
    have s0 := (blk_cell k 0).trans rfl
    have s1 := (blk_cell k 1).trans rfl
    go_simp⟩
  have LD4 : Aside0 (∀ w', Below W1.heap.size W1 w' → (Instr.loadAt 52 (.pointer (some ⟨g4, 0, none⟩))).run Tryz.prog w' = .ok (.agg #[.slice A10 l10.length c10, .slice A11 l11.length c11]) w') := ⟨fun w' hs => by
    have k := (hs.block _ (blk_lt k4)).trans k4
    have s0 := (blk_cell k 0).trans rfl
    have s1 := (blk_cell k 1).trans rfl
    go_simp⟩
  subst hg3
  clear k3 k4
  refine Rg.start frm1 (fun w' => Below W1.heap.size W1 w') 118 6 [(2, .int .i64 cut), (3, .pointer (some ⟨w.heap.size, 0, none⟩)), (4, .pointer (some ⟨g4, 0, none⟩)), (6, .bool false)] frm1t (by kernel_rfl) (by kernel_rfl) frm1T (by decide) (fun c a a' w e h => ⟨e ▸ h.1, h.2⟩) (Rg.Fr.mk' (by kernel_rfl) rfl ⟨rfl, rfl, rfl, rfl, trivial⟩) (below_drew1 (Below.refl _ _)) (fun Q' C HE hS => ?_)
  have hb0 : Below W1.heap.size W1 W1.drew := below_drew1 (Below.refl _ _)
  generalize W1.drew = V0 at hb0 hS ⊢
  refine Rg.gen C hS 0 18 1 (.agg #[.slice A00 l00.length c00, .slice A01 l01.length c01]) (Op.load 52 (Operand.tmp 3)) [(Operand.tmp 3, .pointer (some ⟨w.heap.size, 0, none⟩))] (by kernel_rfl) (by kernel_rfl) (by kernel_rfl) (fun o ho ρ h w hS => by have h1 := h _ (.head _); simp only at h1; clear h; unfold execOp; simp only [ho, h1]; simp [LD3.out w hS]) ?_
  refine Rg.gen C hS 2 20 5 (.agg #[.slice A10 l10.length c10, .slice A11 l11.length c11]) (Op.load 52 (Operand.tmp 4)) [(Operand.tmp 4, .pointer (some ⟨g4, 0, none⟩))] (by kernel_rfl) (by kernel_rfl) (by kernel_rfl) (fun o ho ρ h w hS => by have h1 := h _ (.head _); simp only at h1; clear h; unfold execOp; simp only [ho, h1]; simp [LD4.out w hS]) ?_
  refine Rg.call C 1 19 7 #[.agg #[.slice A00 l00.length c00, .slice A01 l01.length c01]] (by kernel_rfl) Tryz.func22 (by kernel_rfl) rfl (by kernel_rfl) ?_
  refine (broadsidekeep_Pred_Pred.calls 20 A00 c00 l00 A01 c01 l01 p _ (Kd.C_below F00.out (below_step HB.out hb0)) hc00 (Kd.C_below F01.out (below_step HB.out hb0)) hc01 P_.out).mono ?_
  rintro e V1 ⟨v0_, rfl, hR0, hbc⟩
  obtain ⟨Ap, cp, rfl, hcp, hCp⟩ := Kd.R_reads hR0
  have hb1 : Below W1.heap.size W1 V1 := below_step hb0 hbc
  refine ⟨_, rfl, hb1, ?_⟩
  have hS := hb1
  have HPw := Aside0.mk (Below.refl V1.heap.size V1)
  clear hbc
  refine Rg.call C 3 21 15 #[.agg #[.slice A10 l10.length c10, .slice A11 l11.length c11]] (by kernel_rfl) Tryz.func22 (by kernel_rfl) rfl (by kernel_rfl) ?_
  refine (broadsidekeep_Pred_Pred.calls 20 A10 c10 l10 A11 c11 l11 q _ (Kd.C_below F10.out (below_step HB.out hb1)) hc10 (Kd.C_below F11.out (below_step HB.out hb1)) hc11 Q_.out).mono ?_
  rintro e V2 ⟨v1_, rfl, hR1, hbc⟩
  obtain ⟨Aq, cq, rfl, hcq, hCq⟩ := Kd.R_reads hR1
  have hb2 : Below W1.heap.size W1 V2 := below_step hb1 hbc
  refine ⟨_, rfl, hb2, ?_⟩
  have hS := hb2
  have HPw := Aside0.mk hbc
  have HQw := Aside0.mk (Below.refl V2.heap.size V2)
  clear hbc
  refine Rg.move C 4 7 31 (.slice Ap p.length cp) (by kernel_rfl) (by kernel_rfl) ?_
  refine Rg.move C 5 8 63 (.slice Aq q.length cq) (by kernel_rfl) (by kernel_rfl) ?_
  refine Rg.done_lit C [(2, .int .i64 cut), (6, .bool false), (7, .slice Ap p.length cp), (8, .slice Aq q.length cq)] (fun u => [u 0, u 1, (.int .i64 cut), u 3, u 4, u 5, (.bool false), (.slice Ap p.length cp), (.slice Aq q.length cq), u 9, u 10, u 11, u 12, u 13, u 14, u 15, u 16, u 17, u 18, u 19, u 20, u 21, u 22, u 23, u 24, u 25, u 26, u 27, u 28, u 29, u 30, u 31, u 32, u 33, u 34, u 35, u 36, u 37, u 38, u 39, u 40, u 41, u 42, u 43, u 44, u 45, u 46, u 47, u 48, u 49, u 50, u 51, u 52, u 53, u 54, u 55, u 56, u 57, u 58, u 59, u 60, u 61, u 62, u 63, u 64, u 65, u 66, u 67, u 68, u 69, u 70, u 71, u 72, u 73, u 74, u 75, u 76, u 77, u 78, u 79, u 80, u 81, u 82, u 83, u 84, u 85, u 86, u 87, u 88, u 89, u 90, u 91, u 92, u 93, u 94, u 95, u 96, u 97, u 98, u 99, u 100, u 101, u 102, u 103, u 104, u 105, u 106, u 107, u 108, u 109, u 110, u 111, u 112, u 113, u 114, u 115, u 116, u 117]) (by kernel_rfl) (by kernel_rfl) (by kernel_rfl) (by kernel_rfl) (fun u => HE.out _ _ ?_)
  have HB2 := Aside0.mk (below_step HB.out hb2)
  clear hb0 hb1 hb2 hS LD3 LD4 HB HE C F00 F01 F10 F11 hR0 hR1 P_ Q_
  have HB := HB2
  clear HB2
  have CP := Aside0.mk hCp
  have CQ := Aside0.mk hCq
  clear hCp hCq
  go_upto_region 3 with (go_at_call 9; (with_reducible refine (mkE_n 30 Ap p.length cp p rfl _ _ ?s1 ?s2 M1.out).mono ?_); (case s1 => exact Kd.C_below CP.out (by repeat (first | (with_reducible first | exact HPw.out | apply below_alloc | apply pw_below_drewN | apply below_drew1) | exact HPw.out))); (case s2 => omega); rintro e w1 ⟨v1, x1, rfl, ⟨rfl, hR1⟩, hb1⟩; obtain ⟨A1, c1, rfl, hc1, hC1⟩ := Kd.R_reads hR1; have C1 := Aside0.mk hC1; clear hC1 hR1; have HBn := Aside0.mk (below_step (by repeat (first | (with_reducible first | exact HB.out | apply below_alloc | apply pw_below_drewN | apply below_drew1) | exact HB.out)) hb1); clear HB; have HB := HBn; clear HBn; have HPwn := Aside0.mk (below_step (by repeat (first | (with_reducible first | exact HPw.out | apply below_alloc | apply pw_below_drewN | apply below_drew1) | exact HPw.out)) hb1); clear HPw; have HPw := HPwn; clear HPwn; have HQwn := Aside0.mk (below_step (by repeat (first | (with_reducible first | exact HQw.out | apply below_alloc | apply pw_below_drewN | apply below_drew1) | exact HQw.out)) hb1); clear HQw; have HQw := HQwn; clear HQwn; clear hb1; have H1w := Aside0.mk (Below.refl w1.heap.size w1))
  go_upto_region 4 with (go_at_call 18; (with_reducible refine (broadsidebook_Within.calls _ _ _ _ _ W_.out).mono ?_); rintro e wi ⟨rfl, hbi⟩; have hbi := (by first | exact hbi | exact hbi.below : Below _ _ _); have HBn := Aside0.mk (below_step (by repeat (first | (with_reducible first | exact HB.out | apply below_alloc | apply pw_below_drewN | apply below_drew1) | exact HB.out)) hbi); clear HB; have HB := HBn; clear HBn; have HPwn := Aside0.mk (below_step (by repeat (first | (with_reducible first | exact HPw.out | apply below_alloc | apply pw_below_drewN | apply below_drew1) | exact HPw.out)) hbi); clear HPw; have HPw := HPwn; clear HPwn; have HQwn := Aside0.mk (below_step (by repeat (first | (with_reducible first | exact HQw.out | apply below_alloc | apply pw_below_drewN | apply below_drew1) | exact HQw.out)) hbi); clear HQw; have HQw := HQwn; clear HQwn; have H1wn := Aside0.mk (below_step (by repeat (first | (with_reducible first | exact H1w.out | apply below_alloc | apply pw_below_drewN | apply below_drew1) | exact H1w.out)) hbi); clear H1w; have H1w := H1wn; clear H1wn; clear hbi)
  have hp4 := Kd.C_below CP.out (by repeat (first | (with_reducible first | exact HPw.out | apply below_alloc | apply pw_below_drewN | apply below_drew1) | exact HPw.out))
  obtain ⟨i0, hi, hz0, hz1, hz2⟩ := info_parts info23'
  have hd4 := Kd.C_drop (c := cp) hp4 hc hcp
  have ht4 := Kd.C_take hp4 hc
  have hf := cut_from (P := Tryz.prog) 25 23 .i64 hu25 hi 5 hz1 Ap p.length cp (c : Int) (by omega) (by omega)
  have hto := cut_to (P := Tryz.prog) 25 23 .i64 hu25 hi Ap p.length cp (c : Int) (by omega) (by omega) hcp
  rw [Int.toNat_natCast] at hf hto
  rw [show k23.sz = 5 from rfl, List.length_drop] at hd4
  rw [List.length_take, Nat.min_eq_left hc] at ht4
  generalize (if cp = c then Ap else Ap.map (·.add (c * 5))) = Ad at hd4 hf
  have hnd : p.length - c ≤ 5 := by omega
  generalize p.length - c = nd at hd4 hf hnd
  generalize cp - c = cd at hf
  have HD := Aside0.mk hd4
  have HT := Aside0.mk ht4
  have FF := Aside0.mk hf
  have FT := Aside0.mk hto
  clear hp4 hd4 ht4 hf hto hi hz0 hz1 hz2
  refine Rg.start frm4 (fun w' => Below wi.heap.size wi w') 118 15 [(2, .int .i64 cut), (6, .bool false), (7, .slice Ap p.length cp), (8, .slice Aq q.length cq), (9, .slice A1 p.length c1), (10, .nilIface), (11, .int .i64 c)] frm4t (by kernel_rfl) (by kernel_rfl) frm4T (by decide) (fun c a a' w e h => ⟨e ▸ h.1, h.2⟩) (Rg.Fr.mk' (by kernel_rfl) rfl ⟨rfl, rfl, rfl, rfl, rfl, rfl, rfl, trivial⟩) (below_drew1 (Below.refl _ _)) (fun Q' C HE hS => ?_)
  have hb0 : Below wi.heap.size wi wi.drew := below_drew1 (Below.refl _ _)
  generalize wi.drew = V0 at hb0 hS ⊢
  refine Rg.move C 1 33 2 (.slice Ap p.length cp) (by kernel_rfl) (by kernel_rfl) ?_
  refine Rg.move C 2 34 6 (.int .i64 c) (by kernel_rfl) (by kernel_rfl) ?_
  refine Rg.gen C hS 3 35 14 (.slice Ad nd cd) (Op.slice 25 (Operand.tmp 33) (some (Operand.tmp 34)) none none) [(Operand.tmp 33, .slice Ap p.length cp), (Operand.tmp 34, .int .i64 c)] (by kernel_rfl) (by kernel_rfl) (by kernel_rfl) (fun o ho ρ h w hS => by have h1 := h _ (.head _); have h2 := h _ (.tail _ (.head _)); simp only at h1 h2; clear h; unfold execOp; simp only [ho, h1, h2]; simp [Instr.sliceAt, h2, FF.out w]) ?_
  refine Rg.move C 5 37 46 (.slice Ap p.length cp) (by kernel_rfl) (by kernel_rfl) ?_
  refine Rg.move C 6 38 110 (.int .i64 c) (by kernel_rfl) (by kernel_rfl) ?_
  refine Rg.gen C hS 7 39 238 (.slice Ap c cp) (Op.slice 25 (Operand.tmp 37) none (some (Operand.tmp 38)) none) [(Operand.tmp 37, .slice Ap p.length cp), (Operand.tmp 38, .int .i64 c)] (by kernel_rfl) (by kernel_rfl) (by kernel_rfl) (fun o ho ρ h w hS => by have h1 := h _ (.head _); have h2 := h _ (.tail _ (.head _)); simp only at h1 h2; clear h; unfold execOp; simp only [ho, h1, h2]; simp [Instr.sliceAt, h2, FT.out w]) ?_
  refine Rg.make C 0 32 239 (.slice (some ⟨V0.heap.size, 0, none⟩) 0 0) (V0.alloc (.cells #[] 23)) (Op.buildSlice 25 0 #[]) [] (by kernel_rfl) (by kernel_rfl) (by kernel_rfl) (fun o ho ρ h => by clear h; unfold execOp; simp only [ho]; go_simp) (below_alloc hb0 _) ?_
  refine Rg.raw C 4 36 255 (Op.call { callee := Callee.builtin Builtin.append, args := #[Operand.tmp 32, Operand.tmp 35], argTypes := #[25, 25] }) (by kernel_rfl) (by kernel_rfl) (fun a hF o ho hod hwt K hK => ?_)
  refine Kd.R_append_rows_step k23 (w0 := V0) V0.heap.size hwt (.tmp 32) (.tmp 35) 25 23 _ 56 ho Tryz.underlying25 info23' rfl (by decide) (by decide) (.slice (some ⟨V0.heap.size, 0, none⟩) 0 0) [] (p.drop c) Ad nd cd (fun _ => True) (fun _ => False) ((hF.ev (by kernel_rfl)).trans (by kernel_rfl)) ((hF.ev (by kernel_rfl)).trans (by kernel_rfl)) (k23_empty V0 _ (Nat.le_refl _)) (Kd.C_below HD.out (below_alloc hb0 _)) k23_KM (fun _ h => h.elim) (fun _ _ => trivial) (below_alloc (Below.refl _ _) _) (by simp) (by simp; omega) (fun vv3 ww3 hR3 hb3 hg3 ha3 => ?_)
  rw [List.nil_append] at hR3
  have hbb3 : Below wi.heap.size wi ww3 := below_step hb0 hb3
  refine hK.out _ _ hbb3 ?_
  clear hg3 ha3 hK K hF hwt ho hod o a
  refine Rg.raw C 8 40 511 (Op.call { callee := Callee.builtin Builtin.append, args := #[Operand.tmp 36, Operand.tmp 39], argTypes := #[25, 25] }) (by kernel_rfl) (by kernel_rfl) (fun a hF o ho hod hwt K hK => ?_)
  refine Kd.R_append_rows_step k23 (w0 := V0) V0.heap.size hwt (.tmp 36) (.tmp 39) 25 23 _ 56 ho Tryz.underlying25 info23' rfl (by decide) (by decide) (vv3) (p.drop c) (p.take c) Ap c cp (fun _ => True) (fun _ => False) ((hF.ev (by kernel_rfl)).trans (by kernel_rfl)) ((hF.ev (by kernel_rfl)).trans (by kernel_rfl)) hR3 (Kd.C_below HT.out hbb3) k23_KM (fun _ h => h.elim) (fun _ _ => trivial) hb3 hb3.size (by simp; omega) (fun vv4 ww4 hR4 hb4 hg4 ha4 => ?_)
  have hbb4 : Below wi.heap.size wi ww4 := below_step hb0 hb4
  obtain ⟨A4, c4, rfl, hc4, hC4⟩ := Kd.R_reads hR4
  refine hK.out _ _ hbb4 ?_
  clear hg4 ha4 hK K hF hwt ho hod o a
  refine Rg.call C 9 41 1023 #[.slice A4 (p.drop c ++ p.take c).length c4] (by kernel_rfl) Tryz.func9 (by kernel_rfl) rfl (by kernel_rfl) ?_
  refine (mkE_n 30 A4 _ c4 (p.drop c ++ p.take c) rfl _ _ hC4 (by simp; omega) M2.out).mono ?_
  rintro e V5 ⟨v5, x5, rfl, ⟨rfl, hR5⟩, hbc⟩
  obtain ⟨A5, c5, rfl, hc5, hC5⟩ := Kd.R_reads hR5
  have hbb5 : Below wi.heap.size wi V5 := below_step hbb4 hbc
  refine ⟨_, rfl, hbb5, ?_⟩
  have hS := hbb5
  refine Rg.move C 10 31 2047 (.tuple #[.slice A5 p.length c5, .nilIface]) (by kernel_rfl) (by kernel_rfl) ?_
  refine Rg.gen C hS 11 42 4095 (.slice A5 p.length c5) (Op.extract (Operand.tmp 31) 0) [(Operand.tmp 31, .tuple #[.slice A5 p.length c5, .nilIface])] (by kernel_rfl) (by kernel_rfl) (by kernel_rfl) (fun o ho ρ h w hS => by have h1 := h _ (.head _); simp only at h1; clear h; unfold execOp; simp only [ho, h1]; rfl) ?_
  refine Rg.gen C hS 12 43 8191 (.nilIface) (Op.extract (Operand.tmp 31) 1) [(Operand.tmp 31, .tuple #[.slice A5 p.length c5, .nilIface])] (by kernel_rfl) (by kernel_rfl) (by kernel_rfl) (fun o ho ρ h w hS => by have h1 := h _ (.head _); simp only at h1; clear h; unfold execOp; simp only [ho, h1]; rfl) ?_
  refine Rg.move C 13 12 16383 (.slice A5 p.length c5) (by kernel_rfl) (by kernel_rfl) ?_
  refine Rg.move C 14 13 32767 (.nilIface) (by kernel_rfl) (by kernel_rfl) ?_
  refine Rg.done_lit C [(2, .int .i64 cut), (6, .bool false), (7, .slice Ap p.length cp), (8, .slice Aq q.length cq), (9, .slice A1 p.length c1), (10, .nilIface), (11, .int .i64 c), (12, .slice A5 p.length c5), (13, .nilIface)] (fun u => [u 0, u 1, (.int .i64 cut), u 3, u 4, u 5, (.bool false), (.slice Ap p.length cp), (.slice Aq q.length cq), (.slice A1 p.length c1), (.nilIface), (.int .i64 c), (.slice A5 p.length c5), (.nilIface), u 14, u 15, u 16, u 17, u 18, u 19, u 20, u 21, u 22, u 23, u 24, u 25, u 26, u 27, u 28, u 29, u 30, u 31, u 32, u 33, u 34, u 35, u 36, u 37, u 38, u 39, u 40, u 41, u 42, u 43, u 44, u 45, u 46, u 47, u 48, u 49, u 50, u 51, u 52, u 53, u 54, u 55, u 56, u 57, u 58, u 59, u 60, u 61, u 62, u 63, u 64, u 65, u 66, u 67, u 68, u 69, u 70, u 71, u 72, u 73, u 74, u 75, u 76, u 77, u 78, u 79, u 80, u 81, u 82, u 83, u 84, u 85, u 86, u 87, u 88, u 89, u 90, u 91, u 92, u 93, u 94, u 95, u 96, u 97, u 98, u 99, u 100, u 101, u 102, u 103, u 104, u 105, u 106, u 107, u 108, u 109, u 110, u 111, u 112, u 113, u 114, u 115, u 116, u 117]) (by kernel_rfl) (by kernel_rfl) (by kernel_rfl) (by kernel_rfl) (fun u => HE.out _ _ ?_)
  have C5 := Aside0.mk hC5
  have H5w := Aside0.mk (Below.refl V5.heap.size V5)
  have HBn := Aside0.mk (below_step (by repeat (first | (with_reducible first | exact HB.out | apply below_alloc | apply pw_below_drewN | apply below_drew1) | exact HB.out)) hbb5); clear HB; have HB := HBn; clear HBn
  have HPwn := Aside0.mk (below_step (by repeat (first | (with_reducible first | exact HPw.out | apply below_alloc | apply pw_below_drewN | apply below_drew1) | exact HPw.out)) hbb5); clear HPw; have HPw := HPwn; clear HPwn
  have HQwn := Aside0.mk (below_step (by repeat (first | (with_reducible first | exact HQw.out | apply below_alloc | apply pw_below_drewN | apply below_drew1) | exact HQw.out)) hbb5); clear HQw; have HQw := HQwn; clear HQwn
  have H1wn := Aside0.mk (below_step (by repeat (first | (with_reducible first | exact H1w.out | apply below_alloc | apply pw_below_drewN | apply below_drew1) | exact H1w.out)) hbb5); clear H1w; have H1w := H1wn; clear H1wn
  clear hbb3 hbb4 hbb5 hb3 hb4 hbc hb0 hS HE C hC5 hR5 hR4 hR3 hC4 HD HT FF FT
  go_upto_region 5 with (fail)
  have he := k23_empty V5 V5.heap.size (Nat.le_refl _)
  have hbe : Below V5.heap.size V5 (V5.alloc (.cells #[] 23)) := below_alloc (Below.refl _ _) _
  have hbs : V5.heap.size ≤ (V5.alloc (.cells #[] 23)).heap.size := by simp
  have hR0 := Kd.C_below CP.out (below_step (by repeat (first | (with_reducible first | exact HPw.out | apply below_alloc | apply pw_below_drewN | apply below_drew1) | exact HPw.out)) hbe)
  have hinfo := info23'
  go_upto_region 6 with (first | (at_builtin; refine Kd.R_append_rows k23 V5.heap.size rfl (.tmp 45) (.tmp 46) 25 23 _ 56 rfl hu25 hinfo rfl (by decide) (by decide) _ [] p Ap p.length cp (fun _ => True) (fun _ => False) rfl rfl he hR0 k23_KM (fun _ h => h.elim) (fun _ _ => trivial) hbe hbs (by simp; omega) ?_; intro v6 w6 hR6 hb6 hg6 ha6; have hR06 := Kd.C_below CP.out (below_step (by repeat (first | (with_reducible first | exact HPw.out | apply below_alloc | apply pw_below_drewN | apply below_drew1) | exact HPw.out)) hb6); rw [List.nil_append] at hR6) | (at_builtin; refine Kd.R_append_rows k23 V5.heap.size rfl (.tmp 47) (.tmp 48) 25 23 _ 56 rfl hu25 hinfo rfl (by decide) (by decide) v6 p p Ap p.length cp (fun _ => True) (fun _ => False) rfl rfl hR6 hR06 k23_KM (fun _ h => h.elim) (fun _ _ => trivial) hb6 hb6.size (by omega) ?_; intro v7 w7 hR7 hb7 hg7 ha7; obtain ⟨A7, c7, rfl, hc7, hC7⟩ := Kd.R_reads hR7) | (go_at_call 9; (with_reducible refine (mkE_n 30 A7 _ c7 (p ++ p) (by simp) _ _ ?s1 ?s2 M3.out).mono ?_); (case s1 => simpa using hC7); (case s2 => (simp; omega)); rintro e w8 ⟨v8, x8, rfl, ⟨rfl, hR8⟩, hb8⟩; obtain ⟨A8, c8, rfl, hc8, hC8⟩ := Kd.R_reads hR8))
  have hb58 : Below V5.heap.size V5 w8 := below_step hb7 hb8
  have HBn := Aside0.mk (below_step (by repeat (first | (with_reducible first | exact HB.out | apply below_alloc | apply pw_below_drewN | apply below_drew1) | exact HB.out)) hb58); clear HB; have HB := HBn; clear HBn
  have HPwn := Aside0.mk (below_step (by repeat (first | (with_reducible first | exact HPw.out | apply below_alloc | apply pw_below_drewN | apply below_drew1) | exact HPw.out)) hb58); clear HPw; have HPw := HPwn; clear HPwn
  have HQwn := Aside0.mk (below_step (by repeat (first | (with_reducible first | exact HQw.out | apply below_alloc | apply pw_below_drewN | apply below_drew1) | exact HQw.out)) hb58); clear HQw; have HQw := HQwn; clear HQwn
  have H1wn := Aside0.mk (below_step (by repeat (first | (with_reducible first | exact H1w.out | apply below_alloc | apply pw_below_drewN | apply below_drew1) | exact H1w.out)) hb58); clear H1w; have H1w := H1wn; clear H1wn
  have H5wn := Aside0.mk (below_step (by repeat (first | (with_reducible first | exact H5w.out | apply below_alloc | apply pw_below_drewN | apply below_drew1) | exact H5w.out)) hb58); clear H5w; have H5w := H5wn; clear H5wn
  have C8 := Aside0.mk hC8
  have H8w := Aside0.mk (Below.refl w8.heap.size w8)
  clear he hbe hbs hR0 hinfo hR6 hb6 hg6 ha6 hR06 hR7 hb7 hg7 ha7 hC7 hR8 hb8 hC8 hb58
  go_upto_region 7 with (go_at_call 9; (with_reducible refine (mkE_n 30 none 0 0 [] rfl _ _ (Kd.C_nil _ _) (by simp) M4.out).mono ?_); rintro e w9 ⟨v9, x9, rfl, ⟨rfl, hR9⟩, hb9⟩; obtain ⟨A9, c9, rfl, hc9, hC9⟩ := Kd.R_reads hR9; clear hC9 hR9; have HBn := Aside0.mk (below_step (by repeat (first | (with_reducible first | exact HB.out | apply below_alloc | apply pw_below_drewN | apply below_drew1) | exact HB.out)) hb9); clear HB; have HB := HBn; clear HBn; have HPwn := Aside0.mk (below_step (by repeat (first | (with_reducible first | exact HPw.out | apply below_alloc | apply pw_below_drewN | apply below_drew1) | exact HPw.out)) hb9); clear HPw; have HPw := HPwn; clear HPwn; have HQwn := Aside0.mk (below_step (by repeat (first | (with_reducible first | exact HQw.out | apply below_alloc | apply pw_below_drewN | apply below_drew1) | exact HQw.out)) hb9); clear HQw; have HQw := HQwn; clear HQwn; have H1wn := Aside0.mk (below_step (by repeat (first | (with_reducible first | exact H1w.out | apply below_alloc | apply pw_below_drewN | apply below_drew1) | exact H1w.out)) hb9); clear H1w; have H1w := H1wn; clear H1wn; have H5wn := Aside0.mk (below_step (by repeat (first | (with_reducible first | exact H5w.out | apply below_alloc | apply pw_below_drewN | apply below_drew1) | exact H5w.out)) hb9); clear H5w; have H5w := H5wn; clear H5wn; have H8wn := Aside0.mk (below_step (by repeat (first | (with_reducible first | exact H8w.out | apply below_alloc | apply pw_below_drewN | apply below_drew1) | exact H8w.out)) hb9); clear H8w; have H8w := H8wn; clear H8wn; clear hb9)
  have ye := YE.out
  go_wp2_with (first | (go_at_call 19; (with_reducible refine (same_n 30 A1 p.length c1 p rfl Ap p.length cp p rfl true _ ?s0 hc1 ?s1 hcp S1.out).mono ?_); (case s0 => exact Kd.C_below C1.out (by repeat (first | (with_reducible first | exact H1w.out | apply below_alloc | apply pw_below_drewN | apply below_drew1) | exact H1w.out))); (case s1 => exact Kd.C_below CP.out (by repeat (first | (with_reducible first | exact HPw.out | apply below_alloc | apply pw_below_drewN | apply below_drew1) | exact HPw.out))); rintro e wr ⟨rfl, hbr⟩; have HBn := Aside0.mk (below_step (by repeat (first | (with_reducible first | exact HB.out | apply below_alloc | apply pw_below_drewN | apply below_drew1) | exact HB.out)) hbr); clear HB; have HB := HBn; clear HBn; have HPwn := Aside0.mk (below_step (by repeat (first | (with_reducible first | exact HPw.out | apply below_alloc | apply pw_below_drewN | apply below_drew1) | exact HPw.out)) hbr); clear HPw; have HPw := HPwn; clear HPwn; have HQwn := Aside0.mk (below_step (by repeat (first | (with_reducible first | exact HQw.out | apply below_alloc | apply pw_below_drewN | apply below_drew1) | exact HQw.out)) hbr); clear HQw; have HQw := HQwn; clear HQwn; have H1wn := Aside0.mk (below_step (by repeat (first | (with_reducible first | exact H1w.out | apply below_alloc | apply pw_below_drewN | apply below_drew1) | exact H1w.out)) hbr); clear H1w; have H1w := H1wn; clear H1wn; have H5wn := Aside0.mk (below_step (by repeat (first | (with_reducible first | exact H5w.out | apply below_alloc | apply pw_below_drewN | apply below_drew1) | exact H5w.out)) hbr); clear H5w; have H5w := H5wn; clear H5wn; have H8wn := Aside0.mk (below_step (by repeat (first | (with_reducible first | exact H8w.out | apply below_alloc | apply pw_below_drewN | apply below_drew1) | exact H8w.out)) hbr); clear H8w; have H8w := H8wn; clear H8wn; clear hbr) | (go_at_call 19; (with_reducible refine (same_n 30 A5 p.length c5 p rfl Ap p.length cp p rfl true _ ?s0 hc5 ?s1 hcp S1.out).mono ?_); (case s0 => exact Kd.C_below C5.out (by repeat (first | (with_reducible first | exact H5w.out | apply below_alloc | apply pw_below_drewN | apply below_drew1) | exact H5w.out))); (case s1 => exact Kd.C_below CP.out (by repeat (first | (with_reducible first | exact HPw.out | apply below_alloc | apply pw_below_drewN | apply below_drew1) | exact HPw.out))); rintro e wr ⟨rfl, hbr⟩; have HBn := Aside0.mk (below_step (by repeat (first | (with_reducible first | exact HB.out | apply below_alloc | apply pw_below_drewN | apply below_drew1) | exact HB.out)) hbr); clear HB; have HB := HBn; clear HBn; have HPwn := Aside0.mk (below_step (by repeat (first | (with_reducible first | exact HPw.out | apply below_alloc | apply pw_below_drewN | apply below_drew1) | exact HPw.out)) hbr); clear HPw; have HPw := HPwn; clear HPwn; have HQwn := Aside0.mk (below_step (by repeat (first | (with_reducible first | exact HQw.out | apply below_alloc | apply pw_below_drewN | apply below_drew1) | exact HQw.out)) hbr); clear HQw; have HQw := HQwn; clear HQwn; have H1wn := Aside0.mk (below_step (by repeat (first | (with_reducible first | exact H1w.out | apply below_alloc | apply pw_below_drewN | apply below_drew1) | exact H1w.out)) hbr); clear H1w; have H1w := H1wn; clear H1wn; have H5wn := Aside0.mk (below_step (by repeat (first | (with_reducible first | exact H5w.out | apply below_alloc | apply pw_below_drewN | apply below_drew1) | exact H5w.out)) hbr); clear H5w; have H5w := H5wn; clear H5wn; have H8wn := Aside0.mk (below_step (by repeat (first | (with_reducible first | exact H8w.out | apply below_alloc | apply pw_below_drewN | apply below_drew1) | exact H8w.out)) hbr); clear H8w; have H8w := H8wn; clear H8wn; clear hbr) | (go_at_call 19; (with_reducible refine (same_n 30 A8 p.length c8 p rfl Ap p.length cp p rfl true _ ?s0 hc8 ?s1 hcp S1.out).mono ?_); (case s0 => exact Kd.C_below C8.out (by repeat (first | (with_reducible first | exact H8w.out | apply below_alloc | apply pw_below_drewN | apply below_drew1) | exact H8w.out))); (case s1 => exact Kd.C_below CP.out (by repeat (first | (with_reducible first | exact HPw.out | apply below_alloc | apply pw_below_drewN | apply below_drew1) | exact HPw.out))); rintro e wr ⟨rfl, hbr⟩; have HBn := Aside0.mk (below_step (by repeat (first | (with_reducible first | exact HB.out | apply below_alloc | apply pw_below_drewN | apply below_drew1) | exact HB.out)) hbr); clear HB; have HB := HBn; clear HBn; have HPwn := Aside0.mk (below_step (by repeat (first | (with_reducible first | exact HPw.out | apply below_alloc | apply pw_below_drewN | apply below_drew1) | exact HPw.out)) hbr); clear HPw; have HPw := HPwn; clear HPwn; have HQwn := Aside0.mk (below_step (by repeat (first | (with_reducible first | exact HQw.out | apply below_alloc | apply pw_below_drewN | apply below_drew1) | exact HQw.out)) hbr); clear HQw; have HQw := HQwn; clear HQwn; have H1wn := Aside0.mk (below_step (by repeat (first | (with_reducible first | exact H1w.out | apply below_alloc | apply pw_below_drewN | apply below_drew1) | exact H1w.out)) hbr); clear H1w; have H1w := H1wn; clear H1wn; have H5wn := Aside0.mk (below_step (by repeat (first | (with_reducible first | exact H5w.out | apply below_alloc | apply pw_below_drewN | apply below_drew1) | exact H5w.out)) hbr); clear H5w; have H5w := H5wn; clear H5wn; have H8wn := Aside0.mk (below_step (by repeat (first | (with_reducible first | exact H8w.out | apply below_alloc | apply pw_below_drewN | apply below_drew1) | exact H8w.out)) hbr); clear H8w; have H8w := H8wn; clear H8wn; clear hbr) | (go_at_call 19; (with_reducible refine (same_n 30 Ap p.length cp p rfl Aq q.length cq q rfl b _ ?s0 hcp ?s1 hcq S2.out).mono ?_); (case s0 => exact Kd.C_below CP.out (by repeat (first | (with_reducible first | exact HPw.out | apply below_alloc | apply pw_below_drewN | apply below_drew1) | exact HPw.out))); (case s1 => exact Kd.C_below CQ.out (by repeat (first | (with_reducible first | exact HQw.out | apply below_alloc | apply pw_below_drewN | apply below_drew1) | exact HQw.out))); rintro e wr ⟨rfl, hbr⟩; have HBn := Aside0.mk (below_step (by repeat (first | (with_reducible first | exact HB.out | apply below_alloc | apply pw_below_drewN | apply below_drew1) | exact HB.out)) hbr); clear HB; have HB := HBn; clear HBn; have HPwn := Aside0.mk (below_step (by repeat (first | (with_reducible first | exact HPw.out | apply below_alloc | apply pw_below_drewN | apply below_drew1) | exact HPw.out)) hbr); clear HPw; have HPw := HPwn; clear HPwn; have HQwn := Aside0.mk (below_step (by repeat (first | (with_reducible first | exact HQw.out | apply below_alloc | apply pw_below_drewN | apply below_drew1) | exact HQw.out)) hbr); clear HQw; have HQw := HQwn; clear HQwn; have H1wn := Aside0.mk (below_step (by repeat (first | (with_reducible first | exact H1w.out | apply below_alloc | apply pw_below_drewN | apply below_drew1) | exact H1w.out)) hbr); clear H1w; have H1w := H1wn; clear H1wn; have H5wn := Aside0.mk (below_step (by repeat (first | (with_reducible first | exact H5w.out | apply below_alloc | apply pw_below_drewN | apply below_drew1) | exact H5w.out)) hbr); clear H5w; have H5w := H5wn; clear H5wn; have H8wn := Aside0.mk (below_step (by repeat (first | (with_reducible first | exact H8w.out | apply below_alloc | apply pw_below_drewN | apply below_drew1) | exact H8w.out)) hbr); clear H8w; have H8w := H8wn; clear H8wn; clear hbr) | (go_at_call 23; (with_reducible refine (pred_Right.calls 30 Ap cp p true _ ?s0 hcp R1.out).mono ?_); (case s0 => exact Kd.C_below CP.out (by repeat (first | (with_reducible first | exact HPw.out | apply below_alloc | apply pw_below_drewN | apply below_drew1) | exact HPw.out))); rintro e wr ⟨rfl, hbr⟩; have HBn := Aside0.mk (below_step (by repeat (first | (with_reducible first | exact HB.out | apply below_alloc | apply pw_below_drewN | apply below_drew1) | exact HB.out)) hbr); clear HB; have HB := HBn; clear HBn; have HPwn := Aside0.mk (below_step (by repeat (first | (with_reducible first | exact HPw.out | apply below_alloc | apply pw_below_drewN | apply below_drew1) | exact HPw.out)) hbr); clear HPw; have HPw := HPwn; clear HPwn; have HQwn := Aside0.mk (below_step (by repeat (first | (with_reducible first | exact HQw.out | apply below_alloc | apply pw_below_drewN | apply below_drew1) | exact HQw.out)) hbr); clear HQw; have HQw := HQwn; clear HQwn; have H1wn := Aside0.mk (below_step (by repeat (first | (with_reducible first | exact H1w.out | apply below_alloc | apply pw_below_drewN | apply below_drew1) | exact H1w.out)) hbr); clear H1w; have H1w := H1wn; clear H1wn; have H5wn := Aside0.mk (below_step (by repeat (first | (with_reducible first | exact H5w.out | apply below_alloc | apply pw_below_drewN | apply below_drew1) | exact H5w.out)) hbr); clear H5w; have H5w := H5wn; clear H5wn; have H8wn := Aside0.mk (below_step (by repeat (first | (with_reducible first | exact H8w.out | apply below_alloc | apply pw_below_drewN | apply below_drew1) | exact H8w.out)) hbr); clear H8w; have H8w := H8wn; clear H8wn; clear hbr) | (go_at_call 24; (with_reducible refine (pred_Same.calls 30 Ap cp p Aq cq q b _ ?s0 hcp ?s1 hcq S3.out).mono ?_); (case s0 => exact Kd.C_below CP.out (by repeat (first | (with_reducible first | exact HPw.out | apply below_alloc | apply pw_below_drewN | apply below_drew1) | exact HPw.out))); (case s1 => exact Kd.C_below CQ.out (by repeat (first | (with_reducible first | exact HQw.out | apply below_alloc | apply pw_below_drewN | apply below_drew1) | exact HQw.out))); rintro e wr ⟨rfl, hbr⟩; have hbr := (by first | exact hbr | exact hbr.below : Below _ _ _); have HBn := Aside0.mk (below_step (by repeat (first | (with_reducible first | exact HB.out | apply below_alloc | apply pw_below_drewN | apply below_drew1) | exact HB.out)) hbr); clear HB; have HB := HBn; clear HBn; have HPwn := Aside0.mk (below_step (by repeat (first | (with_reducible first | exact HPw.out | apply below_alloc | apply pw_below_drewN | apply below_drew1) | exact HPw.out)) hbr); clear HPw; have HPw := HPwn; clear HPwn; have HQwn := Aside0.mk (below_step (by repeat (first | (with_reducible first | exact HQw.out | apply below_alloc | apply pw_below_drewN | apply below_drew1) | exact HQw.out)) hbr); clear HQw; have HQw := HQwn; clear HQwn; have H1wn := Aside0.mk (below_step (by repeat (first | (with_reducible first | exact H1w.out | apply below_alloc | apply pw_below_drewN | apply below_drew1) | exact H1w.out)) hbr); clear H1w; have H1w := H1wn; clear H1wn; have H5wn := Aside0.mk (below_step (by repeat (first | (with_reducible first | exact H5w.out | apply below_alloc | apply pw_below_drewN | apply below_drew1) | exact H5w.out)) hbr); clear H5w; have H5w := H5wn; clear H5wn; have H8wn := Aside0.mk (below_step (by repeat (first | (with_reducible first | exact H8w.out | apply below_alloc | apply pw_below_drewN | apply below_drew1) | exact H8w.out)) hbr); clear H8w; have H8w := H8wn; clear H8wn; clear hbr) | (go_at_call 10; (with_reducible refine (pred_Say.calls 30 Ap cp p sp _ ?s9 ?s0 hcp Y1.out).mono ?_); (case s9 => exact Val.tb HTAB (by repeat (first | (with_reducible first | exact HB.out | apply below_alloc | apply pw_below_drewN | apply below_drew1) | exact HB.out))); (case s0 => exact Kd.C_below CP.out (by repeat (first | (with_reducible first | exact HPw.out | apply below_alloc | apply pw_below_drewN | apply below_drew1) | exact HPw.out))); rintro e wr ⟨rfl, hbr⟩; have HBn := Aside0.mk (below_step (by repeat (first | (with_reducible first | exact HB.out | apply below_alloc | apply pw_below_drewN | apply below_drew1) | exact HB.out)) hbr); clear HB; have HB := HBn; clear HBn; have HPwn := Aside0.mk (below_step (by repeat (first | (with_reducible first | exact HPw.out | apply below_alloc | apply pw_below_drewN | apply below_drew1) | exact HPw.out)) hbr); clear HPw; have HPw := HPwn; clear HPwn; have HQwn := Aside0.mk (below_step (by repeat (first | (with_reducible first | exact HQw.out | apply below_alloc | apply pw_below_drewN | apply below_drew1) | exact HQw.out)) hbr); clear HQw; have HQw := HQwn; clear HQwn; have H1wn := Aside0.mk (below_step (by repeat (first | (with_reducible first | exact H1w.out | apply below_alloc | apply pw_below_drewN | apply below_drew1) | exact H1w.out)) hbr); clear H1w; have H1w := H1wn; clear H1wn; have H5wn := Aside0.mk (below_step (by repeat (first | (with_reducible first | exact H5w.out | apply below_alloc | apply pw_below_drewN | apply below_drew1) | exact H5w.out)) hbr); clear H5w; have H5w := H5wn; clear H5wn; have H8wn := Aside0.mk (below_step (by repeat (first | (with_reducible first | exact H8w.out | apply below_alloc | apply pw_below_drewN | apply below_drew1) | exact H8w.out)) hbr); clear H8w; have H8w := H8wn; clear H8wn; clear hbr) | (go_at_call 10; (with_reducible refine (pred_Say.calls 30 Aq cq q sq _ ?s9 ?s0 hcq Y2.out).mono ?_); (case s9 => exact Val.tb HTAB (by repeat (first | (with_reducible first | exact HB.out | apply below_alloc | apply pw_below_drewN | apply below_drew1) | exact HB.out))); (case s0 => exact Kd.C_below CQ.out (by repeat (first | (with_reducible first | exact HQw.out | apply below_alloc | apply pw_below_drewN | apply below_drew1) | exact HQw.out))); rintro e wr ⟨rfl, hbr⟩; have HBn := Aside0.mk (below_step (by repeat (first | (with_reducible first | exact HB.out | apply below_alloc | apply pw_below_drewN | apply below_drew1) | exact HB.out)) hbr); clear HB; have HB := HBn; clear HBn; have HPwn := Aside0.mk (below_step (by repeat (first | (with_reducible first | exact HPw.out | apply below_alloc | apply pw_below_drewN | apply below_drew1) | exact HPw.out)) hbr); clear HPw; have HPw := HPwn; clear HPwn; have HQwn := Aside0.mk (below_step (by repeat (first | (with_reducible first | exact HQw.out | apply below_alloc | apply pw_below_drewN | apply below_drew1) | exact HQw.out)) hbr); clear HQw; have HQw := HQwn; clear HQwn; have H1wn := Aside0.mk (below_step (by repeat (first | (with_reducible first | exact H1w.out | apply below_alloc | apply pw_below_drewN | apply below_drew1) | exact H1w.out)) hbr); clear H1w; have H1w := H1wn; clear H1wn; have H5wn := Aside0.mk (below_step (by repeat (first | (with_reducible first | exact H5w.out | apply below_alloc | apply pw_below_drewN | apply below_drew1) | exact H5w.out)) hbr); clear H5w; have H5w := H5wn; clear H5wn; have H8wn := Aside0.mk (below_step (by repeat (first | (with_reducible first | exact H8w.out | apply below_alloc | apply pw_below_drewN | apply below_drew1) | exact H8w.out)) hbr); clear H8w; have H8w := H8wn; clear H8wn; clear hbr) | (go_at_call 3; (with_reducible refine (PredRuns.calls _ ?t0 ?t1).mono ?_); (case t0 => exact Val.tb HTAB (by repeat (first | (with_reducible first | exact HB.out | apply below_alloc | apply pw_below_drewN | apply below_drew1) | exact HB.out))); (case t1 => exact ⟨Er.Typ.below (by repeat (first | (with_reducible first | exact HB.out | apply below_alloc | apply pw_below_drewN | apply below_drew1) | exact HB.out)) HTYP.out⟩); rintro e wr ⟨rfl, hbr⟩; have HBn := Aside0.mk (below_step (by repeat (first | (with_reducible first | exact HB.out | apply below_alloc | apply pw_below_drewN | apply below_drew1) | exact HB.out)) hbr); clear HB; have HB := HBn; clear HBn; have HPwn := Aside0.mk (below_step (by repeat (first | (with_reducible first | exact HPw.out | apply below_alloc | apply pw_below_drewN | apply below_drew1) | exact HPw.out)) hbr); clear HPw; have HPw := HPwn; clear HPwn; have HQwn := Aside0.mk (below_step (by repeat (first | (with_reducible first | exact HQw.out | apply below_alloc | apply pw_below_drewN | apply below_drew1) | exact HQw.out)) hbr); clear HQw; have HQw := HQwn; clear HQwn; have H1wn := Aside0.mk (below_step (by repeat (first | (with_reducible first | exact H1w.out | apply below_alloc | apply pw_below_drewN | apply below_drew1) | exact H1w.out)) hbr); clear H1w; have H1w := H1wn; clear H1wn; have H5wn := Aside0.mk (below_step (by repeat (first | (with_reducible first | exact H5w.out | apply below_alloc | apply pw_below_drewN | apply below_drew1) | exact H5w.out)) hbr); clear H5w; have H5w := H5wn; clear H5wn; have H8wn := Aside0.mk (below_step (by repeat (first | (with_reducible first | exact H8w.out | apply below_alloc | apply pw_below_drewN | apply below_drew1) | exact H8w.out)) hbr); clear H8w; have H8w := H8wn; clear H8wn; clear hbr))
  go_ret
  exact ⟨by first | rfl | simp, HB.out⟩
theorem Forms.calls (A00 : Option Addr) (c00 : Nat) (l00 : List Int) (A01 : Option Addr) (c01 : Nat) (l01 : List Int) (A10 : Option Addr) (c10 : Nat) (l10 : List Int) (A11 : Option Addr) (c11 : Nat) (l11 : List Int) (cut : Int) (w : World) (HTAB : Aside0 (Val.Tab w)) (HTYP : Aside0 (Er.Typ w))
    (hr00 : Kd.C (Kd.int .i64) w A00 l00.length l00) (hc00 : l00.length ≤ c00) (hr01 : Kd.C (Kd.int .i64) w A01 l01.length l01) (hc01 : l01.length ≤ c01) (hr10 : Kd.C (Kd.int .i64) w A10 l10.length l10) (hc10 : l10.length ≤ c10) (hr11 : Kd.C (Kd.int .i64) w A11 l11.length l11) (hc11 : l11.length ≤ c11) :
    Calls Tryz.prog 6 #[.agg #[.slice A00 l00.length c00, .slice A01 l01.length c01], .agg #[.slice A10 l10.length c10, .slice A11 l11.length c11], .int .i64 cut] w fun e w' => e = .returned (.bool true) ∧ Below w.heap.size w w' := by
  obtain ⟨p, hp, np⟩ := pred_nice l00 l01
  obtain ⟨q, hq, nq⟩ := pred_nice l10 l11
  obtain ⟨b, hb, eb⟩ := same_char p q (by have := np.len; omega)
  obtain ⟨b2, hb2, eb2⟩ := psame_char p q (by have := np.len; omega)
  obtain ⟨b3, hb3, eb3⟩ := same_char p p (by have := np.len; omega)
  obtain rfl : b2 = b := by rw [Bool.eq_iff_iff, eb, eb2]
  obtain rfl : b3 = true := eb3.2 rfl
  have hl := np.len
  have hc0 : 0 ≤ cut % ((p.length : Int) + 1) := Int.emod_nonneg _ (by omega)
  have hc1 : cut % ((p.length : Int) + 1) < (p.length : Int) + 1 := Int.emod_lt_of_pos _ (by omega)
  refine Forms.walk A00 c00 l00 A01 c01 l01 A10 c10 l10 A11 c11 l11 cut p q (cut % ((p.length : Int) + 1)).toNat b2 (sayB p) (sayB q) w HTAB HTYP hr00 hc00 hr01 hc01 hr10 hc10 hr11 hc11 hl nq.len hp hq (by omega) ?_ (make_self np) (make_turn np _) (make_twice np) rfl hb3 hb hb2 (right_nice np) (say_f np) (say_f nq) ?_
  · rw [fo_within _ _ (by omega) (by omega), Int.toNat_of_nonneg hc0]
  · rw [Bool.eq_iff_iff, beq_iff_eq, eb, ← say_inj np nq]
    exact ⟨fun h => toList_inj h, fun h => by rw [h]⟩
end Go.Proofs.YtfabnapjbgamaaaGreatDoor.MPred
