import Derived.Test.YtpkdfjlkhfjlcaaDoorVaZ0
import Derived.Test.YtpkdfjlkhfjlcaaDoorVaZ1
import Derived.Test.YtpkdfjlkhfjlcaaDoorVaRp
import Derived.BigRegion
import Derived.BigQuiet
import Derived.IntWalk
import Derived.Deep.QuietTactic
import Derived.Deep.CutBlock
import Derived.Deep.CutRange
namespace Go.Proofs.YtpkdfjlkhfjlcaaDoor.MVal
open Go.RowKit Go.Proofs.YtpkdfjlkhfjlcaaDoorW.PrintWords Go.Proofs.YtpkdfjlkhfjlcaaDoorW.PrintLast Go.Proofs.YtpkdfjlkhfjlcaaDoorW.PrintMore
set_option linter.unusedVariables false
set_option linter.unusedSimpArgs false
@[local go_sem] theorem binOp_gtr_str_ (t : TypeId) (a b : ByteArray) : binOp .gtr t (.string a) (.string b) = pure (.bool !(Op.bytesLess a.toList b.toList || a.toList == b.toList)) := by simp [binOp, Op.stringOp]
/-- What the law's last condition asks of two neighbours, as the machine asks it. -/
def badS (p v : S51) : Bool := !(Op.bytesLess p.f2.toList v.f2.toList || p.f2.toList == v.f2.toList)
theorem badS_all : (smpV.all fun p => smpV.all fun v => ltB v p || !((p.f0 && !v.f0) || (!v.f0 && decide (v.f1 < p.f1)) || (p.f0 && badS p v))) = true := by kernel_rfl
theorem not_badS {p v : S51} (hp : p ∈ smpV) (hv : v ∈ smpV) (h : ltB v p = false) : ((p.f0 && !v.f0) || (!v.f0 && decide (v.f1 < p.f1)) || (p.f0 && badS p v)) = false := by
  have := List.all_eq_true.1 (List.all_eq_true.1 badS_all p hp) v hv
  rw [h, Bool.false_or] at this
  simpa only [Bool.not_eq_true'] using this
theorem filter_snoc {out : List S51} {j : Nat} {v x : S51} (hj : j < out.length) (hx : out.getD j z51 = x) (b : Bool) (hb : ltB x v = b) : ((out.take (j + 1)).filter (fun o => ltB o v)).length = ((out.take j).filter (fun o => ltB o v)).length + (if b = true then 1 else 0) := by
  have e : out.getD j z51 = out[j] := by simp [List.getD, List.getElem?_eq_getElem hj]
  rw [List.take_succ_eq_append_getElem hj, List.filter_append, List.length_append, ← e, hx]
  cases b <;> simp [hb]
theorem ahead_of {out : List S51} {k : Nat} {v : S51} (hk : k < out.length) (hv : out.getD k z51 = v) (hs : Sor out) : (out.filter (fun o => ltB o v)).length ≤ k := by
  have e : out.getD k z51 = out[k] := by simp [List.getD, List.getElem?_eq_getElem hk]
  have hsp : out = out.take k ++ v :: out.drop (k + 1) := by
    conv => lhs; rw [← List.take_append_drop k out]
    rw [List.drop_eq_getElem_cons hk, ← e, hv]
  have := ahead_le (hsp ▸ hs)
  rw [← hsp] at this
  rw [List.length_take] at this
  omega
theorem next_not {out : List S51} {m : Nat} {p v : S51} (hk : m + 1 < out.length) (hp : out.getD m z51 = p) (hv : out.getD (m + 1) z51 = v) (hs : Sor out) : ltB v p = false := by
  have e1 : out.getD m z51 = out[m] := by simp [List.getD, List.getElem?_eq_getElem (show m < out.length by omega)]
  have e2 : out.getD (m + 1) z51 = out[m + 1] := by simp [List.getD, List.getElem?_eq_getElem hk]
  have := List.pairwise_iff_getElem.1 hs.1 m (m + 1) (by omega) hk (by omega)
  rw [← e1, ← e2, hp, hv] at this
  exact this
theorem up_ {W : World} {g : Nat} {c : Obj} (h : W.heap[g]? = some c) (o : Obj) : (W.alloc o).heap[g]? = some c := (Below.heap_alloc W o g (blk_lt h)).trans h
theorem drop_ins {out : List S51} {n m : Nat} {y z : S51} (hnm : n = m + 1) (hz : out.getD m z51 = z) (hb : ltB y z = true) (D : ∀ x ∈ out.drop n, ltB y x = true) : ∀ x ∈ out.drop m, ltB y x = true := by
  subst hnm
  intro x hx
  by_cases h : m < out.length
  · rw [List.drop_eq_getElem_cons h] at hx
    have e : out.getD m z51 = out[m] := by simp [List.getD, List.getElem?_eq_getElem h]
    rcases List.mem_cons.1 hx with rfl | hx
    · rw [← e, hz]; exact hb
    · exact D x hx
  · rw [List.drop_of_length_le (by omega)] at hx
    cases hx
theorem last_of {out : List S51} {m : Nat} {y z : S51} (h : m < out.length) (hz : out.getD m z51 = z) (hb : ltB y z = false) : ∀ x, (out.take (m + 1)).getLast? = some x → ltB y x = false := by
  intro x hx
  have e : out.getD m z51 = out[m] := by simp [List.getD, List.getElem?_eq_getElem h]
  rw [List.take_succ_eq_append_getElem h] at hx
  rw [List.getLast?_concat] at hx
  obtain rfl := Option.some.inj hx
  rw [← e, hz]
  exact hb
theorem getD_mem (l : List S51) (m : Nat) (h : m < l.length) : l.getD m z51 ∈ l := by
  have e : l.getD m z51 = l[m] := by simp [List.getD, List.getElem?_eq_getElem h]
  rw [e]
  exact List.getElem_mem h
set_option maxHeartbeats 8000000 in
set_option maxRecDepth 1000000 in
theorem sorts_calls (A : Option Addr) (cc : Nat) (ns : List Int) (w : World) (HTAB : Aside0 (Val.Tab w)) (hr : ReadsInt w .i64 A ns.length ns) :
    Calls Tryd.prog 10 #[.slice A ns.length cc] w fun e w' => e = .returned (.bool true) ∧ Below w.heap.size w w' := by
  have hu51 := Tryd.underlying51
  have hu58 := Tryd.underlying58
  have HR := Aside0.mk hr
  have hown0 : Aside0 (Own51 w w.heap.size (.slice none 0 0) []) := ⟨own_nil _ _ _ _⟩
  clear hr
  go_enter Tryd.func10, Tryd.ntmps10
  go_upto_block 0 with (fail)
  go_cut [3] (fun s3 wc => ∃ (i : Nat) (out : List S51), Aside0 (i ≤ 12 ∧ out.length = i ∧ Sor out) ∧ Aside0 (Own51 wc w.heap.size s3 out) ∧ Aside0 (Below w.heap.size w wc))
  case first =>
    go_wp2_with fail
    go_loopw [3, 4] (fun s3 s4 wr => ∃ (i : Nat) (out : List S51), Aside0 (i ≤ ns.length ∧ i ≤ 12 ∧ out.length = i ∧ Sor out) ∧ s4 = .int .i64 i ∧ Aside0 (Own51 wr w.heap.size s3 out) ∧ Aside0 (Below w.heap.size w wr)) (fun _ s4 _ => 12 - (intOf s4).toNat)
    case atStart => exact ⟨0, [], ⟨Nat.zero_le _, by omega, rfl, sor_nil⟩, rfl, hown0, ⟨Below.refl _ _⟩⟩
    case round =>
      clear hown0
      obtain ⟨i, out, H, rfl, O, S1⟩ := hrel
      obtain ⟨wo, rfl⟩ : ∃ wo : World, wo = wr := ⟨_, rfl⟩
      by_cases hlt : i < ns.length ∧ i < 12
      · have hl1 : decide ((i : Int) < (ns.length : Int)) = true := decide_eq_true (by omega)
        have hl2 : decide ((i : Int) < 12) = true := decide_eq_true (by omega)
        obtain ⟨ad, rfl, x0⟩ := (HR.out.below (w1 := wo) S1.out).at_ (i : Int) (by omega) (by omega)
        simp only [Int.toNat_natCast] at x0
        obtain ⟨y, hv, hy⟩ := vals_smp (rd ns (i : Int))
        obtain ⟨Av, cv, rfl, hcv, hCv⟩ := own51_C O.out H.out.2.2.1
        have HCV := Aside0.mk hCv
        have HV := Aside0.mk hv
        have HY := Aside0.mk hy
        clear hCv hv hy
        go_upto_region 7 with ((with_reducible refine (broadsidekeep_Value.calls _ y.f0 y.f1 y.f2 _ HV.out).mono ?_); rintro e w1 ⟨rfl, hb1⟩)
        obtain ⟨W, hW⟩ : ∃ W, W = w1.alloc (.cells #[.bool y.f0, .int .i64 y.f1, .string y.f2] 51) := ⟨_, rfl⟩
        rw [← hW]
        have hnew : Aside0 (W.heap[w1.heap.size]? = some (.cells (enc51 y).toArray 51 (0, 0))) := ⟨by rw [hW]; exact heap_alloc_new w1 _⟩
        have hbal : Aside0 (Below wo.heap.size wo W) := ⟨by rw [hW]; exact below_alloc hb1 _⟩
        have hgw : Aside0 (wo.heap.size ≤ w1.heap.size) := ⟨hb1.size⟩
        clear hW hb1 x0 HV hl1 hl2
        generalize w1.heap.size = g at hnew hgw ⊢
        have hlen : Aside0 (out.length = i) := ⟨H.out.2.2.1⟩
        have hC2 : Aside0 (Kd.C k51 W Av i out) := ⟨Kd.C_below HCV.out hbal.out⟩
        have hb0 : Aside0 (Below W.heap.size W W) := ⟨Below.refl _ _⟩
        have hi12 : i ≤ 12 := by omega
        have hd0 : Aside0 (∀ x ∈ out.drop i, ltB y x = true) := ⟨by rw [List.drop_of_length_le (by have := hlen.out; omega)]; intro x hx; cases hx⟩
        as_aux_lemma =>
          go_loopw [6] (fun s6 w2 => ∃ n : Nat, n ≤ i ∧ s6 = .int .i64 n ∧ Aside0 (∀ x ∈ out.drop n, ltB y x = true) ∧ Aside0 (Below W.heap.size W w2)) (fun s6 _ => (intOf s6).toNat)
          case atStart => exact ⟨i, Nat.le_refl _, rfl, hd0, hb0⟩
          case round =>
            clear hb0 hd0
            obtain ⟨n, hn, rfl, D, S2⟩ := hrel
            have hnew2 := Aside0.mk ((S2.out.block _ (blk_lt hnew.out)).trans hnew.out)
            rcases Nat.eq_zero_or_pos n with hz0 | hn0
            · have hdn : decide (0 < n) = false := decide_eq_false (by omega)
              have E : Aside0 (∀ x, (out.take n).getLast? = some x → ltB y x = false) := ⟨by rw [hz0]; intro x hx; simp at hx⟩
              clear hz0
              go_upto_region 7 with (fail)
              refine start_ (n := 11) (S := fun w' => True) (ds := []) #[false, false, false, false, false, false, false, false, false, false, false] (by kernel_rfl) rfl rfl trivial (fun hHeld => ?_)
              refine pure_ (i := 0) (N := (some 29)) (v := ?_) (a' := ?_) #[true, false, false, false, false, false, false, false, false, false, false] rfl rfl (by kernel_rfl) (fun _ _ _ h => h) (Or.inl ⟨by rfl, ?_⟩) ?_ ?_
              rotate_left
              · intro w'
                go_simp
                with_reducible rfl
              rotate_left
              · simp only [Act.put, List.setIfInBounds_toArray, List.set_cons_zero, List.set_cons_succ, i64_w, i32_w]
                rfl
              refine pure_ (i := 1) (N := (some 30)) (v := ?_) (a' := ?_) #[true, true, false, false, false, false, false, false, false, false, false] rfl rfl (by kernel_rfl) (fun _ _ _ h => h) (Or.inl ⟨by rfl, ?_⟩) ?_ ?_
              rotate_left
              · intro w'
                go_simp
                with_reducible rfl
              rotate_left
              · simp only [Act.put, List.setIfInBounds_toArray, List.set_cons_zero, List.set_cons_succ, i64_w, i32_w]
                rfl
              refine pure_ (i := 2) (N := (some 31)) (v := ?_) (a' := ?_) #[true, true, true, false, false, false, false, false, false, false, false] rfl rfl (by kernel_rfl) (fun _ _ _ h => h) (Or.inl ⟨by rfl, ?_⟩) ?_ ?_
              rotate_left
              · intro w'
                go_simp
                with_reducible rfl
              rotate_left
              · simp only [Act.put, List.setIfInBounds_toArray, List.set_cons_zero, List.set_cons_succ, i64_w, i32_w]
                rfl
              refine pure_ (i := 3) (N := (some 32)) (v := undef) (a' := ?_) #[true, true, true, true, false, false, false, false, false, false, false] rfl rfl (by kernel_rfl) (fun _ _ _ h => h) (Or.inr ⟨by rfl, rfl⟩) ?_ ?_
              rotate_left
              · simp only [Act.put, List.setIfInBounds_toArray, List.set_cons_zero, List.set_cons_succ, i64_w, i32_w]
                rfl
              refine pure_ (i := 4) (N := (some 33)) (v := undef) (a' := ?_) #[true, true, true, true, true, false, false, false, false, false, false] rfl rfl (by kernel_rfl) (fun _ _ _ h => h) (Or.inr ⟨by rfl, rfl⟩) ?_ ?_
              rotate_left
              · simp only [Act.put, List.setIfInBounds_toArray, List.set_cons_zero, List.set_cons_succ, i64_w, i32_w]
                rfl
              refine pure_ (i := 5) (N := (some 34)) (v := undef) (a' := ?_) #[true, true, true, true, true, true, false, false, false, false, false] rfl rfl (by kernel_rfl) (fun _ _ _ h => h) (Or.inr ⟨by rfl, rfl⟩) ?_ ?_
              rotate_left
              · simp only [Act.put, List.setIfInBounds_toArray, List.set_cons_zero, List.set_cons_succ, i64_w, i32_w]
                rfl
              refine pure_ (i := 6) (N := (some 35)) (v := undef) (a' := ?_) #[true, true, true, true, true, true, true, false, false, false, false] rfl rfl (by kernel_rfl) (fun _ _ _ h => h) (Or.inr ⟨by rfl, rfl⟩) ?_ ?_
              rotate_left
              · simp only [Act.put, List.setIfInBounds_toArray, List.set_cons_zero, List.set_cons_succ, i64_w, i32_w]
                rfl
              refine pure_ (i := 7) (N := (some 36)) (v := undef) (a' := ?_) #[true, true, true, true, true, true, true, true, false, false, false] rfl rfl (by kernel_rfl) (fun _ _ _ h => h) (Or.inr ⟨by rfl, rfl⟩) ?_ ?_
              rotate_left
              · simp only [Act.put, List.setIfInBounds_toArray, List.set_cons_zero, List.set_cons_succ, i64_w, i32_w]
                rfl
              refine pure_ (i := 8) (N := (some 37)) (v := undef) (a' := ?_) #[true, true, true, true, true, true, true, true, true, false, false] rfl rfl (by kernel_rfl) (fun _ _ _ h => h) (Or.inr ⟨by rfl, rfl⟩) ?_ ?_
              rotate_left
              · simp only [Act.put, List.setIfInBounds_toArray, List.set_cons_zero, List.set_cons_succ, i64_w, i32_w]
                rfl
              refine pure_ (i := 9) (N := (some 38)) (v := undef) (a' := ?_) #[true, true, true, true, true, true, true, true, true, true, false] rfl rfl (by kernel_rfl) (fun _ _ _ h => h) (Or.inr ⟨by rfl, rfl⟩) ?_ ?_
              rotate_left
              · simp only [Act.put, List.setIfInBounds_toArray, List.set_cons_zero, List.set_cons_succ, i64_w, i32_w]
                rfl
              refine pure_ (i := 10) (N := (some 39)) (v := ?_) (a' := ?_) #[true, true, true, true, true, true, true, true, true, true, true] rfl rfl (by kernel_rfl) (fun _ _ _ h => h) (Or.inl ⟨by rfl, ?_⟩) ?_ ?_
              rotate_left
              · intro w'
                go_simp
                with_reducible rfl
              rotate_left
              · simp only [Act.put, List.setIfInBounds_toArray, List.set_cons_zero, List.set_cons_succ, i64_w, i32_w]
                rfl
              refine done_ (by kernel_rfl) ?_
              go_upto_region 9 with (fail)
              have S4 : Aside0 (Below wo.heap.size wo wr.drew) := ⟨below_step hbal.out (below_step S2.out (below_drew1 (Below.refl _ _)))⟩
              have hnew4 := (show wr.drew.heap[g]? = _ from (below_drew1 (Below.refl wr.heap.size wr)).block _ (blk_lt hnew2.out)).trans hnew2.out
              generalize wr.drew = w4 at S4 hnew4 ⊢
              clear S2 hnew2 hnew hC2 hdn
              have hS : ∀ w', Below w4.heap.size w4 w' → w'.cell? ⟨g, 0, none⟩ = some (.bool y.f0) ∧ w'.cell? ⟨g, 1, none⟩ = some (.int .i64 y.f1) ∧ w'.cell? ⟨g, 2, none⟩ = some (.string y.f2) := fun w' hw => ⟨pw_cell_below hw ((blk_cell hnew4 0).trans rfl), pw_cell_below hw ((blk_cell hnew4 1).trans rfl), pw_cell_below hw ((blk_cell hnew4 2).trans rfl)⟩
              obtain ⟨i0_, hi0_, hi1_⟩ := Option.map_eq_some_iff.1 info51
              have hsz0_ : i0_.size = 3 := by simp only [Prod.mk.injEq] at hi1_; exact hi1_.2.1
              have HCT := cut_to 58 51 .i64 Tryd.underlying58 hi0_ Av i cv (n : Int) (by omega) (by omega) (by omega)
              have HCF := cut_from 58 51 .i64 Tryd.underlying58 hi0_ 3 hsz0_ Av i cv (n : Int) (by omega) (by omega)
              simp only [Int.toNat_natCast] at HCT HCF
              have HCVL : Kd.C k51 wo Av out.length out := hlen.out ▸ HCV.out
              have HCD := Aside0.mk (C_drop51 (m := n) (c := cv) HCVL (by have := hlen.out; omega) (by have := hlen.out; omega))
              have HCK := Aside0.mk (Kd.C_take (m := n) HCVL (by have := hlen.out; omega))
              have hlt1 : (out.take n).length = n := by rw [List.length_take]; have := hlen.out; omega
              have hlt2 : (out.drop n).length = i - n := by rw [List.length_drop, hlen.out]
              generalize (if cv = n then Av else Av.map (·.add (n * 3))) = A2 at HCF HCD
              have HL := Aside0.mk (And.intro hlt1 hlt2)
              clear hlt1 hlt2 hi0_ hi1_ hsz0_ HCVL
              refine start_ (n := 13) (S := fun w' => w'.cell? ⟨g, 0, none⟩ = some (.bool y.f0) ∧ w'.cell? ⟨g, 1, none⟩ = some (.int .i64 y.f1) ∧ w'.cell? ⟨g, 2, none⟩ = some (.string y.f2)) (ds := []) #[false, false, false, false, false, false, false, false, false, false, false, false, false] (by kernel_rfl) rfl rfl (hS _ (below_drew1 (Below.refl _ _))) (fun hHeld => ?_)
              have hW0 : Below w4.heap.size w4 w4.drew := below_drew1 (Below.refl _ _)
              have hSz := fun (W' : World) (hW : Below w4.drew.heap.size w4.drew W') => hS W' (below_step hW0 hW)
              have SB : Aside0 (Below wo.heap.size wo w4.drew) := ⟨below_step S4.out hW0⟩
              generalize w4.drew = W0 at hW0 hHeld hSz SB ⊢
              clear hS hnew4
              have hbase : w.heap.size ≤ W0.heap.size := by have := S1.out.size; have := SB.out.size; omega
              have HCK0 := Aside0.mk (Kd.C_below HCK.out SB.out)
              have HCD0 := Aside0.mk (Kd.C_below HCD.out SB.out)
              refine pure_ (i := 1) (N := (some 43)) (v := ?_) (a' := ?_) #[false, true, false, false, false, false, false, false, false, false, false, false, false] rfl rfl (by kernel_rfl) (fun _ _ _ h => h) (Or.inl ⟨by rfl, ?_⟩) ?_ ?_
              rotate_left
              · intro w'
                go_simp
                with_reducible rfl
              rotate_left
              · simp only [Act.put, List.setIfInBounds_toArray, List.set_cons_zero, List.set_cons_succ, i64_w, i32_w]
                rfl
              refine pure_ (i := 2) (N := (some 44)) (v := ?_) (a' := ?_) #[false, true, true, false, false, false, false, false, false, false, false, false, false] rfl rfl (by kernel_rfl) (fun _ _ _ h => h) (Or.inl ⟨by rfl, ?_⟩) ?_ ?_
              rotate_left
              · intro w'
                go_simp
                with_reducible rfl
              rotate_left
              · simp only [Act.put, List.setIfInBounds_toArray, List.set_cons_zero, List.set_cons_succ, i64_w, i32_w]
                rfl
              refine pure_ (i := 3) (N := (some 45)) (v := ?_) (a' := ?_) #[false, true, true, true, false, false, false, false, false, false, false, false, false] rfl rfl (by kernel_rfl) (fun _ _ _ h => h) (Or.inl ⟨by rfl, ?_⟩) ?_ ?_
              rotate_left
              · intro w'
                go_simp
                with_reducible rfl
              rotate_left
              · simp only [Act.put, List.setIfInBounds_toArray, List.set_cons_zero, List.set_cons_succ, i64_w, i32_w]
                rfl
              refine take_ (i := 5) (N := (some 47)) (v := ?_) (a' := ?_) #[false, true, true, true, false, true, false, false, false, false, false, false, false] rfl rfl (by kernel_rfl) (fun _ _ _ h => h) (Or.inl ⟨by rfl, ?_⟩) hHeld ?_ ?_
              rotate_left
              · rintro w' ⟨s0, s1, s2⟩
                go_simp
                with_reducible rfl
              rotate_left
              · simp only [Act.put, List.setIfInBounds_toArray, List.set_cons_zero, List.set_cons_succ, i64_w, i32_w]
                rfl
              refine pure_ (i := 8) (N := (some 50)) (v := ?_) (a' := ?_) #[false, true, true, true, false, true, false, false, true, false, false, false, false] rfl rfl (by kernel_rfl) (fun _ _ _ h => h) (Or.inl ⟨by rfl, ?_⟩) ?_ ?_
              rotate_left
              · intro w'
                go_simp
                with_reducible rfl
              rotate_left
              · simp only [Act.put, List.setIfInBounds_toArray, List.set_cons_zero, List.set_cons_succ, i64_w, i32_w]
                rfl
              refine pure_ (i := 9) (N := (some 51)) (v := ?_) (a' := ?_) #[false, true, true, true, false, true, false, false, true, true, false, false, false] rfl rfl (by kernel_rfl) (fun _ _ _ h => h) (Or.inl ⟨by rfl, ?_⟩) ?_ ?_
              rotate_left
              · intro w'
                go_simp
                with_reducible rfl
              rotate_left
              · simp only [Act.put, List.setIfInBounds_toArray, List.set_cons_zero, List.set_cons_succ, i64_w, i32_w]
                rfl
              refine pure_ (i := 10) (N := (some 52)) (v := ?_) (a' := ?_) #[false, true, true, true, false, true, false, false, true, true, true, false, false] rfl rfl (by kernel_rfl) (fun _ _ _ h => h) (Or.inl ⟨by rfl, ?_⟩) ?_ ?_
              rotate_left
              · intro w'
                go_simp
                with_reducible rfl
              rotate_left
              · simp only [Act.put, List.setIfInBounds_toArray, List.set_cons_zero, List.set_cons_succ, i64_w, i32_w]
                rfl
              refine join_ (σ := Nat × Value × Value) 3 #[true, true, true, true, true, true, true, false, true, true, true, false, false] (fun s => [(42, .slice (some ⟨s.1, 0, none⟩) 0 0), (46, s.2.1), (48, s.2.2)]) (fun s W' => JR W0 w.heap.size (out.take n) y s.2.1 s.2.2 W') ?_ ?_
              rotate_left
              · intro hJ
                refine two_ (i := 0) (j := 6) (Ni := some 42) (Nj := some 48) #[true, true, true, true, false, true, false, false, true, true, true, false, false] #[false, true, true, true, false, true, true, false, true, true, true, false, false] rfl rfl rfl rfl (by kernel_rfl) (by decide) (by decide) (fun K hK => ?_) (fun K hK => ?_)
                · skip
                  refine value_ (w1 := W0.alloc (.cells #[] 51)) (v := .slice (some ⟨W0.heap.size, 0, none⟩) 0 0) (by rfl) rfl (by go_simp) ?_
                  refine hK.out _ _ (hSz _ (below_alloc (Below.refl _ _) _)) (fun hHeld => ?_)
                  clear hK K
                  refine norm_ (a' := ?_) ?_ ?_
                  rotate_left
                  · show Act.put _ (some 42) _ = _
                    simp only [Act.put, List.setIfInBounds_toArray, List.set_cons_zero, List.set_cons_succ, i64_w, i32_w]
                    rfl
                  refine two_ (i := 4) (j := 6) (Ni := some 46) (Nj := some 48) #[true, true, true, true, true, true, false, false, true, true, true, false, false] #[true, true, true, true, false, true, true, false, true, true, true, false, false] rfl rfl rfl rfl (by kernel_rfl) (by decide) (by decide) (fun K hK => ?_) (fun K hK => ?_)
                  · skip
                    obtain ⟨v1, w1_, hrun, hrow, hbel, hfr, hkeep, hsz⟩ := jr_one (c := cv) (g81 := W0.heap.size) (ds := out.take n) (below_alloc (Below.refl W0.heap.size W0) _) hbase (heap_alloc_new W0 _) (Nat.le_refl _) (Kd.C_below HCK0.out (below_alloc (Below.refl W0.heap.size W0) _)) (by rw [HL.out.1]; omega)
                    rw [HL.out.1] at hrun
                    refine step_app51 (by rfl) rfl (.tmp 42) (.tmp 45) rfl rfl (by rfl) (by rfl) hrun ?_
                    refine hK.out _ _ (hSz _ (hbel)) (fun hHeld => ?_)
                    clear hK K
                    refine norm_ (a' := ?_) ?_ ?_
                    rotate_left
                    · show Act.put _ (some 46) _ = _
                      simp only [Act.put, List.setIfInBounds_toArray, List.set_cons_zero, List.set_cons_succ, i64_w, i32_w]
                      rfl
                    refine one_ (i := 6) (N := (some 48)) #[true, true, true, true, true, true, true, false, true, true, true, false, false] rfl rfl (by kernel_rfl) (by decide) (fun K hK => ?_)
                    refine value_ (w1 := w1_.alloc (.cells #[.bool y.f0, .int .i64 y.f1, .string y.f2] 51)) (v := .slice (some ⟨w1_.heap.size, 0, none⟩) 1 1) (by rfl) rfl (by go_simp) ?_
                    refine hK.out _ _ (hSz _ (below_alloc hbel _)) (fun hHeld => ?_)
                    clear hK K
                    refine norm_ (a' := ?_) ?_ ?_
                    rotate_left
                    · show Act.put _ (some 48) _ = _
                      simp only [Act.put, List.setIfInBounds_toArray, List.set_cons_zero, List.set_cons_succ, i64_w, i32_w]
                      rfl
                    have h := hJ (W0.heap.size, v1, .slice (some ⟨w1_.heap.size, 0, none⟩) 1 1) _ (jr_late hrow hbel hfr)
                    simp only [putAll, Act.put, List.setIfInBounds_toArray, List.set_cons_zero, List.set_cons_succ] at h
                    exact h
                  · skip
                    have hh := heap_alloc_new W0 (.cells #[] 51)
                    refine value_ (w1 := (W0.alloc (.cells #[] 51)).alloc (.cells #[.bool y.f0, .int .i64 y.f1, .string y.f2] 51)) (v := .slice (some ⟨(W0.alloc (.cells #[] 51)).heap.size, 0, none⟩) 1 1) (by rfl) rfl (by go_simp) ?_
                    refine hK.out _ _ (hSz _ (below_alloc (below_alloc (Below.refl _ _) _) _)) (fun hHeld => ?_)
                    clear hK K
                    refine norm_ (a' := ?_) ?_ ?_
                    rotate_left
                    · show Act.put _ (some 48) _ = _
                      simp only [Act.put, List.setIfInBounds_toArray, List.set_cons_zero, List.set_cons_succ, i64_w, i32_w]
                      rfl
                    refine one_ (i := 4) (N := (some 46)) #[true, true, true, true, true, true, true, false, true, true, true, false, false] rfl rfl (by kernel_rfl) (by decide) (fun K hK => ?_)
                    obtain ⟨v1, w1_, hrun, hrow, hbel, hfr, hkeep, hsz⟩ := jr_one (c := cv) (g81 := W0.heap.size) (ds := out.take n) (below_alloc (below_alloc (Below.refl W0.heap.size W0) (.cells #[] 51)) (.cells #[.bool y.f0, .int .i64 y.f1, .string y.f2] 51)) hbase (up_ (heap_alloc_new W0 _) _) (Nat.le_refl _) (Kd.C_below HCK0.out (below_alloc (below_alloc (Below.refl W0.heap.size W0) (.cells #[] 51)) (.cells #[.bool y.f0, .int .i64 y.f1, .string y.f2] 51))) (by rw [HL.out.1]; omega)
                    rw [HL.out.1] at hrun
                    refine step_app51 (by rfl) rfl (.tmp 42) (.tmp 45) rfl rfl (by rfl) (by rfl) hrun ?_
                    refine hK.out _ _ (hSz _ (hbel)) (fun hHeld => ?_)
                    clear hK K
                    refine norm_ (a' := ?_) ?_ ?_
                    rotate_left
                    · show Act.put _ (some 46) _ = _
                      simp only [Act.put, List.setIfInBounds_toArray, List.set_cons_zero, List.set_cons_succ, i64_w, i32_w]
                      rfl
                    have h := hJ (W0.heap.size, v1, .slice (some ⟨(W0.alloc (.cells #[] 51)).heap.size, 0, none⟩) 1 1) _ (jr_early hrow hbel hfr hkeep (heap_alloc_new (W0.alloc (.cells #[] 51)) (.cells #[.bool y.f0, .int .i64 y.f1, .string y.f2] 51)) (by simp) (by simp))
                    simp only [putAll, Act.put, List.setIfInBounds_toArray, List.set_cons_zero, List.set_cons_succ] at h
                    exact h
                · skip
                  refine value_ (w1 := W0.alloc (.cells #[.bool y.f0, .int .i64 y.f1, .string y.f2] 51)) (v := .slice (some ⟨W0.heap.size, 0, none⟩) 1 1) (by rfl) rfl (by go_simp) ?_
                  refine hK.out _ _ (hSz _ (below_alloc (Below.refl _ _) _)) (fun hHeld => ?_)
                  clear hK K
                  refine norm_ (a' := ?_) ?_ ?_
                  rotate_left
                  · show Act.put _ (some 48) _ = _
                    simp only [Act.put, List.setIfInBounds_toArray, List.set_cons_zero, List.set_cons_succ, i64_w, i32_w]
                    rfl
                  refine one_ (i := 0) (N := (some 42)) #[true, true, true, true, false, true, true, false, true, true, true, false, false] rfl rfl (by kernel_rfl) (by decide) (fun K hK => ?_)
                  refine value_ (w1 := (W0.alloc (.cells #[.bool y.f0, .int .i64 y.f1, .string y.f2] 51)).alloc (.cells #[] 51)) (v := .slice (some ⟨(W0.alloc (.cells #[.bool y.f0, .int .i64 y.f1, .string y.f2] 51)).heap.size, 0, none⟩) 0 0) (by rfl) rfl (by go_simp) ?_
                  refine hK.out _ _ (hSz _ (below_alloc (below_alloc (Below.refl _ _) _) _)) (fun hHeld => ?_)
                  clear hK K
                  refine norm_ (a' := ?_) ?_ ?_
                  rotate_left
                  · show Act.put _ (some 42) _ = _
                    simp only [Act.put, List.setIfInBounds_toArray, List.set_cons_zero, List.set_cons_succ, i64_w, i32_w]
                    rfl
                  refine one_ (i := 4) (N := (some 46)) #[true, true, true, true, true, true, true, false, true, true, true, false, false] rfl rfl (by kernel_rfl) (by decide) (fun K hK => ?_)
                  obtain ⟨v1, w1_, hrun, hrow, hbel, hfr, hkeep, hsz⟩ := jr_one (c := cv) (g81 := (W0.alloc (.cells #[.bool y.f0, .int .i64 y.f1, .string y.f2] 51)).heap.size) (ds := out.take n) (below_alloc (below_alloc (Below.refl W0.heap.size W0) (.cells #[.bool y.f0, .int .i64 y.f1, .string y.f2] 51)) (.cells #[] 51)) hbase (heap_alloc_new (W0.alloc (.cells #[.bool y.f0, .int .i64 y.f1, .string y.f2] 51)) (.cells #[] 51)) (by simp) (Kd.C_below HCK0.out (below_alloc (below_alloc (Below.refl W0.heap.size W0) (.cells #[.bool y.f0, .int .i64 y.f1, .string y.f2] 51)) (.cells #[] 51))) (by rw [HL.out.1]; omega)
                  rw [HL.out.1] at hrun
                  refine step_app51 (by rfl) rfl (.tmp 42) (.tmp 45) rfl rfl (by rfl) (by rfl) hrun ?_
                  refine hK.out _ _ (hSz _ (hbel)) (fun hHeld => ?_)
                  clear hK K
                  refine norm_ (a' := ?_) ?_ ?_
                  rotate_left
                  · show Act.put _ (some 46) _ = _
                    simp only [Act.put, List.setIfInBounds_toArray, List.set_cons_zero, List.set_cons_succ, i64_w, i32_w]
                    rfl
                  have h := hJ ((W0.alloc (.cells #[.bool y.f0, .int .i64 y.f1, .string y.f2] 51)).heap.size, v1, .slice (some ⟨W0.heap.size, 0, none⟩) 1 1) _ (jr_early hrow hbel hfr hkeep (up_ (heap_alloc_new W0 _) _) (Nat.le_refl _) (by simp))
                  simp only [putAll, Act.put, List.setIfInBounds_toArray, List.set_cons_zero, List.set_cons_succ] at h
                  exact h
              rintro ⟨g64, v68, v70⟩ W5 hJR
              refine norm_ (a' := ?_) ?_ ?_
              rotate_left
              · simp only [putAll, Act.put, List.setIfInBounds_toArray, List.set_cons_zero, List.set_cons_succ]
                rfl
              replace hJR : JR W0 w.heap.size (out.take n) y v68 v70 W5 := hJR
              refine one_ (i := 7) (N := (some 49)) #[true, true, true, true, true, true, true, true, true, true, true, false, false] rfl rfl (by kernel_rfl) (by decide) (fun K hK => ?_)
              obtain ⟨v71, W2, hrun, hrow, hbel, hfr⟩ := jr_two hJR hbase (by rw [HL.out.1]; omega)
              refine step_app51 (by rfl) rfl (.tmp 46) (.tmp 48) rfl rfl (by rfl) (by rfl) hrun ?_
              refine hK.out _ _ (hSz _ (hbel)) (fun hHeld => ?_)
              clear hK K
              refine norm_ (a' := ?_) ?_ ?_
              rotate_left
              · show Act.put _ (some 49) _ = _
                simp only [Act.put, List.setIfInBounds_toArray, List.set_cons_zero, List.set_cons_succ, i64_w, i32_w]
                rfl
              clear hJR hrun
              refine one_ (i := 11) (N := (some 53)) #[true, true, true, true, true, true, true, true, true, true, true, true, false] rfl rfl (by kernel_rfl) (by decide) (fun K hK => ?_)
              obtain ⟨v75, W3, hrun, hrow3, hbel3⟩ := jr_three (c := cv - n) hrow hbel hfr HCD0.out hbase (by simp only [List.length_append, HL.out.1, HL.out.2, List.length_singleton]; omega)
              rw [HL.out.2] at hrun
              refine step_app51 (by rfl) rfl (.tmp 49) (.tmp 52) rfl rfl (by rfl) (by rfl) hrun ?_
              refine hK.out _ _ (hSz _ (hbel3)) (fun hHeld => ?_)
              clear hK K
              refine norm_ (a' := ?_) ?_ ?_
              rotate_left
              · show Act.put _ (some 53) _ = _
                simp only [Act.put, List.setIfInBounds_toArray, List.set_cons_zero, List.set_cons_succ, i64_w, i32_w]
                rfl
              clear hrun
              refine pure_ (i := 12) (N := (some 3)) (v := ?_) (a' := ?_) #[true, true, true, true, true, true, true, true, true, true, true, true, true] rfl rfl (by kernel_rfl) (fun _ _ _ h => h) (Or.inl ⟨by rfl, ?_⟩) ?_ ?_
              rotate_left
              · intro w'
                go_simp
                with_reducible rfl
              rotate_left
              · simp only [Act.put, List.setIfInBounds_toArray, List.set_cons_zero, List.set_cons_succ, i64_w, i32_w]
                rfl
              refine done_ (by kernel_rfl) ?_
              have HR3 := Aside0.mk hrow3
              have HBF : Aside0 (Below w.heap.size w W3) := ⟨below_step S1.out (below_step SB.out hbel3)⟩
              clear hrow3 hbel3 hrow hbel hfr hHeld hSz hW0
              have HE : Aside0 (out.take n ++ [y] ++ out.drop n = out.take n ++ y :: out.drop n) := ⟨by simp⟩
              have hln : Aside0 ((out.take n ++ [y] ++ out.drop n).length = i + 1) := ⟨by simp only [List.length_append, HL.out.1, HL.out.2, List.length_singleton]; omega⟩
              have HSO : Aside0 (Sor (out.take n ++ [y] ++ out.drop n)) := ⟨by rw [HE.out]; exact sor_ins (by rw [List.take_append_drop]; exact H.out.2.2.2) HY.out D.out E.out⟩
              generalize out.take n ++ [y] ++ out.drop n = out2 at HR3 hln HSO
              clear HE HL HCD0 HCK0 HCD HCK HCT HCF HCV O
              go_wp2
              go_roundw
              case rel => exact ⟨i + 1, out2, ⟨by omega, by omega, hln.out, HSO.out⟩, by go_num, HR3, HBF⟩
              case measure => simp [intOf]; omega
            · obtain ⟨m, hnm⟩ : ∃ m, n = m + 1 := ⟨n - 1, by omega⟩
              have hdn : decide (0 < n) = true := decide_eq_true (by omega)
              have hm1 : wrap64 ((n : Int) - 1) = (m : Int) := by rw [hnm]; unfold wrap64; omega
              have hmi : m < i := by omega
              have HNM := Aside0.mk hnm
              clear hnm
              obtain ⟨ao, rfl, c0, c1, c2⟩ := at_T51 (Kd.C_below hC2.out S2.out) (m : Int) (by omega) (by omega)
              simp only [Int.toNat_natCast] at c0 c1 c2
              have Y0 : rd_T51 out (m : Int) = out.getD m z51 := by unfold rd_T51; rw [Int.toNat_natCast]
              rw [Y0] at c0 c1 c2
              have hmem : out.getD m z51 ∈ smpV := H.out.2.2.2.2 _ (by have hx : m < out.length := by (have := hlen.out; omega)
                                                                       exact getD_mem out m hx)
              have hless : value_Less.f y.f0 y.f1 y.f2 (out.getD m z51).f0 (out.getD m z51).f1 (out.getD m z51).f2 = some (ltB y (out.getD m z51)) := okB_iff (List.all_eq_true.1 (List.all_eq_true.1 tot_all y HY.out) _ hmem)
              have HL := Aside0.mk hless
              have HM := Aside0.mk hmem
              clear Y0 hless hmem
              generalize hz : out.getD m z51 = z at c0 c1 c2 HL HM
              have HZ := Aside0.mk hz
              clear hz
              generalize hb : ltB y z = b at HL
              have HBB := Aside0.mk hb
              clear hb
              go_upto_region 7 with (fail)
              have hS : ∀ w', Below wr.heap.size wr w' → w'.cell? (ao.add (m * 3)) = some (.bool z.f0) ∧ w'.cell? ⟨(ao.add (m * 3)).block, (ao.add (m * 3)).off + 1, none⟩ = some (.int .i64 z.f1) ∧ w'.cell? ⟨(ao.add (m * 3)).block, (ao.add (m * 3)).off + 2, none⟩ = some (.string z.f2) ∧ w'.cell? ⟨g, 0, none⟩ = some (.bool y.f0) ∧ w'.cell? ⟨g, 1, none⟩ = some (.int .i64 y.f1) ∧ w'.cell? ⟨g, 2, none⟩ = some (.string y.f2) := fun w' hw => ⟨pw_cell_below hw c0, pw_cell_below hw c1, pw_cell_below hw c2, pw_cell_below hw ((blk_cell hnew2.out 0).trans rfl), pw_cell_below hw ((blk_cell hnew2.out 1).trans rfl), pw_cell_below hw ((blk_cell hnew2.out 2).trans rfl)⟩
              refine start_ (n := 11) (S := fun w' => w'.cell? (ao.add (m * 3)) = some (.bool z.f0) ∧ w'.cell? ⟨(ao.add (m * 3)).block, (ao.add (m * 3)).off + 1, none⟩ = some (.int .i64 z.f1) ∧ w'.cell? ⟨(ao.add (m * 3)).block, (ao.add (m * 3)).off + 2, none⟩ = some (.string z.f2) ∧ w'.cell? ⟨g, 0, none⟩ = some (.bool y.f0) ∧ w'.cell? ⟨g, 1, none⟩ = some (.int .i64 y.f1) ∧ w'.cell? ⟨g, 2, none⟩ = some (.string y.f2)) (ds := []) #[false, false, false, false, false, false, false, false, false, false, false] (by kernel_rfl) rfl rfl (hS _ (below_drew1 (Below.refl _ _))) (fun hHeld => ?_)
              have hW0 : Below wr.heap.size wr wr.drew := below_drew1 (Below.refl _ _)
              generalize wr.drew = W0 at hW0 hHeld ⊢
              refine pure_ (i := 0) (N := (some 29)) (v := ?_) (a' := ?_) #[true, false, false, false, false, false, false, false, false, false, false] rfl rfl (by kernel_rfl) (fun _ _ _ h => h) (Or.inl ⟨by rfl, ?_⟩) ?_ ?_
              rotate_left
              · intro w'
                go_simp
                with_reducible rfl
              rotate_left
              · simp only [Act.put, List.setIfInBounds_toArray, List.set_cons_zero, List.set_cons_succ, i64_w, i32_w]
                rfl
              refine pure_ (i := 1) (N := (some 30)) (v := ?_) (a' := ?_) #[true, true, false, false, false, false, false, false, false, false, false] rfl rfl (by kernel_rfl) (fun _ _ _ h => h) (Or.inl ⟨by rfl, ?_⟩) ?_ ?_
              rotate_left
              · intro w'
                go_simp
                with_reducible rfl
              rotate_left
              · simp only [Act.put, List.setIfInBounds_toArray, List.set_cons_zero, List.set_cons_succ, i64_w, i32_w]
                rfl
              refine pure_ (i := 2) (N := (some 31)) (v := ?_) (a' := ?_) #[true, true, true, false, false, false, false, false, false, false, false] rfl rfl (by kernel_rfl) (fun _ _ _ h => h) (Or.inl ⟨by rfl, ?_⟩) ?_ ?_
              rotate_left
              · intro w'
                go_simp
                with_reducible rfl
              rotate_left
              · simp only [Act.put, List.setIfInBounds_toArray, List.set_cons_zero, List.set_cons_succ, i64_w, i32_w]
                rfl
              refine take_ (i := 3) (N := (some 32)) (v := ?_) (a' := ?_) #[true, true, true, true, false, false, false, false, false, false, false] rfl rfl (by kernel_rfl) (fun _ _ _ h => h) (Or.inl ⟨by rfl, ?_⟩) hHeld ?_ ?_
              rotate_left
              · rintro w' ⟨s0, s1, s2, s3, s4, s5⟩
                go_simp
                with_reducible rfl
              rotate_left
              · simp only [Act.put, List.setIfInBounds_toArray, List.set_cons_zero, List.set_cons_succ, i64_w, i32_w]
                rfl
              refine pure_ (i := 4) (N := (some 33)) (v := ?_) (a' := ?_) #[true, true, true, true, true, false, false, false, false, false, false] rfl rfl (by kernel_rfl) (fun _ _ _ h => h) (Or.inl ⟨by rfl, ?_⟩) ?_ ?_
              rotate_left
              · intro w'
                go_simp
                with_reducible rfl
              rotate_left
              · simp only [Act.put, List.setIfInBounds_toArray, List.set_cons_zero, List.set_cons_succ, i64_w, i32_w]
                rfl
              refine pure_ (i := 5) (N := (some 34)) (v := ?_) (a' := ?_) #[true, true, true, true, true, true, false, false, false, false, false] rfl rfl (by kernel_rfl) (fun _ _ _ h => h) (Or.inl ⟨by rfl, ?_⟩) ?_ ?_
              rotate_left
              · intro w'
                go_simp
                with_reducible rfl
              rotate_left
              · simp only [Act.put, List.setIfInBounds_toArray, List.set_cons_zero, List.set_cons_succ, i64_w, i32_w]
                rfl
              refine pure_ (i := 6) (N := (some 35)) (v := ?_) (a' := ?_) #[true, true, true, true, true, true, true, false, false, false, false] rfl rfl (by kernel_rfl) (fun _ _ _ h => h) (Or.inl ⟨by rfl, ?_⟩) ?_ ?_
              rotate_left
              · intro w'
                go_simp
                with_reducible rfl
              rotate_left
              · simp only [Act.put, List.setIfInBounds_toArray, List.set_cons_zero, List.set_cons_succ, i64_w, i32_w]
                rfl
              refine pure_ (i := 7) (N := (some 36)) (v := ?_) (a' := ?_) #[true, true, true, true, true, true, true, true, false, false, false] rfl rfl (by kernel_rfl) (fun _ _ _ h => h) (Or.inl ⟨by rfl, ?_⟩) ?_ ?_
              rotate_left
              · intro w'
                go_simp
                with_reducible rfl
              rotate_left
              · simp only [Act.put, List.setIfInBounds_toArray, List.set_cons_zero, List.set_cons_succ, i64_w, i32_w]
                rfl
              refine take_ (i := 8) (N := (some 37)) (v := ?_) (a' := ?_) #[true, true, true, true, true, true, true, true, true, false, false] rfl rfl (by kernel_rfl) (fun _ _ _ h => h) (Or.inl ⟨by rfl, ?_⟩) hHeld ?_ ?_
              rotate_left
              · rintro w' ⟨s0, s1, s2, s3, s4, s5⟩
                go_simp
                with_reducible rfl
              rotate_left
              · simp only [Act.put, List.setIfInBounds_toArray, List.set_cons_zero, List.set_cons_succ, i64_w, i32_w]
                rfl
              refine one_ (i := 9) (N := (some 38)) #[true, true, true, true, true, true, true, true, true, true, false] rfl rfl (by kernel_rfl) (by decide) (fun K hK => ?_)
              refine goes_ Tryd.func26 (by kernel_rfl) rfl #[.agg #[.bool y.f0, .int .i64 y.f1, .string y.f2], .agg #[.bool z.f0, .int .i64 z.f1, .string z.f2]] (by rfl) rfl rfl (by (try simp only [List.map_toArray, List.map_cons, List.map_nil]); first | done | rfl) ?_
              refine (value_Less.calls _ _ _ _ _ _ b W0 HL.out).mono ?_
              rintro e W1 ⟨rfl, hbc⟩
              refine ⟨_, rfl, ?_⟩
              refine hK.out _ _ (hS _ (below_step hW0 hbc)) (fun hHeld => ?_)
              clear hK K
              refine norm_ (a' := ?_) ?_ ?_
              rotate_left
              · show Act.put _ (some 38) _ = _
                simp only [Act.put, List.setIfInBounds_toArray, List.set_cons_zero, List.set_cons_succ, i64_w, i32_w]
                rfl
              refine pure_ (i := 10) (N := (some 39)) (v := ?_) (a' := ?_) #[true, true, true, true, true, true, true, true, true, true, true] rfl rfl (by kernel_rfl) (fun _ _ _ h => h) (Or.inl ⟨by rfl, ?_⟩) ?_ ?_
              rotate_left
              · intro w'
                go_simp
                with_reducible rfl
              rotate_left
              · simp only [Act.put, List.setIfInBounds_toArray, List.set_cons_zero, List.set_cons_succ, i64_w, i32_w]
                rfl
              refine done_ (by kernel_rfl) ?_
              have S4 : Aside0 (Below wo.heap.size wo W1) := ⟨below_step hbal.out (below_step S2.out (below_step hW0 hbc))⟩
              have S5 : Aside0 (Below W.heap.size W W1) := ⟨below_step S2.out (below_step hW0 hbc)⟩
              have hnew4 := (S5.out.block _ (blk_lt hnew.out)).trans hnew.out
              clear hS hHeld hbc hW0 c0 c1 c2 hm1 hdn S2 hnew2
              cases b with
              | true =>
                go_wp2
                go_roundw
                case rel => exact ⟨m, by omega, (by have := HNM.out; congr 1; omega), ⟨drop_ins HNM.out HZ.out HBB.out D.out⟩, S5⟩
                case measure => have := HNM.out; simp [intOf]; omega
              | false =>
                go_upto_region 9 with (fail)
                have E : Aside0 (∀ x, (out.take n).getLast? = some x → ltB y x = false) := ⟨by rw [HNM.out]; exact last_of (by have := hlen.out; omega) HZ.out HBB.out⟩
                generalize hw4 : W1 = w4 at S4 hnew4 ⊢
                clear hw4 S5 hnew hC2 hmi HL HM HZ HBB HNM hn0
                generalize hAv : some ao = Av at HCV O ⊢
                clear hAv
                have hS : ∀ w', Below w4.heap.size w4 w' → w'.cell? ⟨g, 0, none⟩ = some (.bool y.f0) ∧ w'.cell? ⟨g, 1, none⟩ = some (.int .i64 y.f1) ∧ w'.cell? ⟨g, 2, none⟩ = some (.string y.f2) := fun w' hw => ⟨pw_cell_below hw ((blk_cell hnew4 0).trans rfl), pw_cell_below hw ((blk_cell hnew4 1).trans rfl), pw_cell_below hw ((blk_cell hnew4 2).trans rfl)⟩
                obtain ⟨i0_, hi0_, hi1_⟩ := Option.map_eq_some_iff.1 info51
                have hsz0_ : i0_.size = 3 := by simp only [Prod.mk.injEq] at hi1_; exact hi1_.2.1
                have HCT := cut_to 58 51 .i64 Tryd.underlying58 hi0_ Av i cv (n : Int) (by omega) (by omega) (by omega)
                have HCF := cut_from 58 51 .i64 Tryd.underlying58 hi0_ 3 hsz0_ Av i cv (n : Int) (by omega) (by omega)
                simp only [Int.toNat_natCast] at HCT HCF
                have HCVL : Kd.C k51 wo Av out.length out := hlen.out ▸ HCV.out
                have HCD := Aside0.mk (C_drop51 (m := n) (c := cv) HCVL (by have := hlen.out; omega) (by have := hlen.out; omega))
                have HCK := Aside0.mk (Kd.C_take (m := n) HCVL (by have := hlen.out; omega))
                have hlt1 : (out.take n).length = n := by rw [List.length_take]; have := hlen.out; omega
                have hlt2 : (out.drop n).length = i - n := by rw [List.length_drop, hlen.out]
                generalize (if cv = n then Av else Av.map (·.add (n * 3))) = A2 at HCF HCD
                have HL := Aside0.mk (And.intro hlt1 hlt2)
                clear hlt1 hlt2 hi0_ hi1_ hsz0_ HCVL
                refine start_ (n := 13) (S := fun w' => w'.cell? ⟨g, 0, none⟩ = some (.bool y.f0) ∧ w'.cell? ⟨g, 1, none⟩ = some (.int .i64 y.f1) ∧ w'.cell? ⟨g, 2, none⟩ = some (.string y.f2)) (ds := []) #[false, false, false, false, false, false, false, false, false, false, false, false, false] (by kernel_rfl) rfl rfl (hS _ (below_drew1 (Below.refl _ _))) (fun hHeld => ?_)
                have hW0 : Below w4.heap.size w4 w4.drew := below_drew1 (Below.refl _ _)
                have hSz := fun (W' : World) (hW : Below w4.drew.heap.size w4.drew W') => hS W' (below_step hW0 hW)
                have SB : Aside0 (Below wo.heap.size wo w4.drew) := ⟨below_step S4.out hW0⟩
                generalize w4.drew = W0 at hW0 hHeld hSz SB ⊢
                clear hS hnew4
                have hbase : w.heap.size ≤ W0.heap.size := by have := S1.out.size; have := SB.out.size; omega
                have HCK0 := Aside0.mk (Kd.C_below HCK.out SB.out)
                have HCD0 := Aside0.mk (Kd.C_below HCD.out SB.out)
                refine pure_ (i := 1) (N := (some 43)) (v := ?_) (a' := ?_) #[false, true, false, false, false, false, false, false, false, false, false, false, false] rfl rfl (by kernel_rfl) (fun _ _ _ h => h) (Or.inl ⟨by rfl, ?_⟩) ?_ ?_
                rotate_left
                · intro w'
                  go_simp
                  with_reducible rfl
                rotate_left
                · simp only [Act.put, List.setIfInBounds_toArray, List.set_cons_zero, List.set_cons_succ, i64_w, i32_w]
                  rfl
                refine pure_ (i := 2) (N := (some 44)) (v := ?_) (a' := ?_) #[false, true, true, false, false, false, false, false, false, false, false, false, false] rfl rfl (by kernel_rfl) (fun _ _ _ h => h) (Or.inl ⟨by rfl, ?_⟩) ?_ ?_
                rotate_left
                · intro w'
                  go_simp
                  with_reducible rfl
                rotate_left
                · simp only [Act.put, List.setIfInBounds_toArray, List.set_cons_zero, List.set_cons_succ, i64_w, i32_w]
                  rfl
                refine pure_ (i := 3) (N := (some 45)) (v := ?_) (a' := ?_) #[false, true, true, true, false, false, false, false, false, false, false, false, false] rfl rfl (by kernel_rfl) (fun _ _ _ h => h) (Or.inl ⟨by rfl, ?_⟩) ?_ ?_
                rotate_left
                · intro w'
                  go_simp
                  with_reducible rfl
                rotate_left
                · simp only [Act.put, List.setIfInBounds_toArray, List.set_cons_zero, List.set_cons_succ, i64_w, i32_w]
                  rfl
                refine take_ (i := 5) (N := (some 47)) (v := ?_) (a' := ?_) #[false, true, true, true, false, true, false, false, false, false, false, false, false] rfl rfl (by kernel_rfl) (fun _ _ _ h => h) (Or.inl ⟨by rfl, ?_⟩) hHeld ?_ ?_
                rotate_left
                · rintro w' ⟨s0, s1, s2⟩
                  go_simp
                  with_reducible rfl
                rotate_left
                · simp only [Act.put, List.setIfInBounds_toArray, List.set_cons_zero, List.set_cons_succ, i64_w, i32_w]
                  rfl
                refine pure_ (i := 8) (N := (some 50)) (v := ?_) (a' := ?_) #[false, true, true, true, false, true, false, false, true, false, false, false, false] rfl rfl (by kernel_rfl) (fun _ _ _ h => h) (Or.inl ⟨by rfl, ?_⟩) ?_ ?_
                rotate_left
                · intro w'
                  go_simp
                  with_reducible rfl
                rotate_left
                · simp only [Act.put, List.setIfInBounds_toArray, List.set_cons_zero, List.set_cons_succ, i64_w, i32_w]
                  rfl
                refine pure_ (i := 9) (N := (some 51)) (v := ?_) (a' := ?_) #[false, true, true, true, false, true, false, false, true, true, false, false, false] rfl rfl (by kernel_rfl) (fun _ _ _ h => h) (Or.inl ⟨by rfl, ?_⟩) ?_ ?_
                rotate_left
                · intro w'
                  go_simp
                  with_reducible rfl
                rotate_left
                · simp only [Act.put, List.setIfInBounds_toArray, List.set_cons_zero, List.set_cons_succ, i64_w, i32_w]
                  rfl
                refine pure_ (i := 10) (N := (some 52)) (v := ?_) (a' := ?_) #[false, true, true, true, false, true, false, false, true, true, true, false, false] rfl rfl (by kernel_rfl) (fun _ _ _ h => h) (Or.inl ⟨by rfl, ?_⟩) ?_ ?_
                rotate_left
                · intro w'
                  go_simp
                  with_reducible rfl
                rotate_left
                · simp only [Act.put, List.setIfInBounds_toArray, List.set_cons_zero, List.set_cons_succ, i64_w, i32_w]
                  rfl
                refine join_ (σ := Nat × Value × Value) 3 #[true, true, true, true, true, true, true, false, true, true, true, false, false] (fun s => [(42, .slice (some ⟨s.1, 0, none⟩) 0 0), (46, s.2.1), (48, s.2.2)]) (fun s W' => JR W0 w.heap.size (out.take n) y s.2.1 s.2.2 W') ?_ ?_
                rotate_left
                · intro hJ
                  refine two_ (i := 0) (j := 6) (Ni := some 42) (Nj := some 48) #[true, true, true, true, false, true, false, false, true, true, true, false, false] #[false, true, true, true, false, true, true, false, true, true, true, false, false] rfl rfl rfl rfl (by kernel_rfl) (by decide) (by decide) (fun K hK => ?_) (fun K hK => ?_)
                  · skip
                    refine value_ (w1 := W0.alloc (.cells #[] 51)) (v := .slice (some ⟨W0.heap.size, 0, none⟩) 0 0) (by rfl) rfl (by go_simp) ?_
                    refine hK.out _ _ (hSz _ (below_alloc (Below.refl _ _) _)) (fun hHeld => ?_)
                    clear hK K
                    refine norm_ (a' := ?_) ?_ ?_
                    rotate_left
                    · show Act.put _ (some 42) _ = _
                      simp only [Act.put, List.setIfInBounds_toArray, List.set_cons_zero, List.set_cons_succ, i64_w, i32_w]
                      rfl
                    refine two_ (i := 4) (j := 6) (Ni := some 46) (Nj := some 48) #[true, true, true, true, true, true, false, false, true, true, true, false, false] #[true, true, true, true, false, true, true, false, true, true, true, false, false] rfl rfl rfl rfl (by kernel_rfl) (by decide) (by decide) (fun K hK => ?_) (fun K hK => ?_)
                    · skip
                      obtain ⟨v1, w1_, hrun, hrow, hbel, hfr, hkeep, hsz⟩ := jr_one (c := cv) (g81 := W0.heap.size) (ds := out.take n) (below_alloc (Below.refl W0.heap.size W0) _) hbase (heap_alloc_new W0 _) (Nat.le_refl _) (Kd.C_below HCK0.out (below_alloc (Below.refl W0.heap.size W0) _)) (by rw [HL.out.1]; omega)
                      rw [HL.out.1] at hrun
                      refine step_app51 (by rfl) rfl (.tmp 42) (.tmp 45) rfl rfl (by rfl) (by rfl) hrun ?_
                      refine hK.out _ _ (hSz _ (hbel)) (fun hHeld => ?_)
                      clear hK K
                      refine norm_ (a' := ?_) ?_ ?_
                      rotate_left
                      · show Act.put _ (some 46) _ = _
                        simp only [Act.put, List.setIfInBounds_toArray, List.set_cons_zero, List.set_cons_succ, i64_w, i32_w]
                        rfl
                      refine one_ (i := 6) (N := (some 48)) #[true, true, true, true, true, true, true, false, true, true, true, false, false] rfl rfl (by kernel_rfl) (by decide) (fun K hK => ?_)
                      refine value_ (w1 := w1_.alloc (.cells #[.bool y.f0, .int .i64 y.f1, .string y.f2] 51)) (v := .slice (some ⟨w1_.heap.size, 0, none⟩) 1 1) (by rfl) rfl (by go_simp) ?_
                      refine hK.out _ _ (hSz _ (below_alloc hbel _)) (fun hHeld => ?_)
                      clear hK K
                      refine norm_ (a' := ?_) ?_ ?_
                      rotate_left
                      · show Act.put _ (some 48) _ = _
                        simp only [Act.put, List.setIfInBounds_toArray, List.set_cons_zero, List.set_cons_succ, i64_w, i32_w]
                        rfl
                      have h := hJ (W0.heap.size, v1, .slice (some ⟨w1_.heap.size, 0, none⟩) 1 1) _ (jr_late hrow hbel hfr)
                      simp only [putAll, Act.put, List.setIfInBounds_toArray, List.set_cons_zero, List.set_cons_succ] at h
                      exact h
                    · skip
                      have hh := heap_alloc_new W0 (.cells #[] 51)
                      refine value_ (w1 := (W0.alloc (.cells #[] 51)).alloc (.cells #[.bool y.f0, .int .i64 y.f1, .string y.f2] 51)) (v := .slice (some ⟨(W0.alloc (.cells #[] 51)).heap.size, 0, none⟩) 1 1) (by rfl) rfl (by go_simp) ?_
                      refine hK.out _ _ (hSz _ (below_alloc (below_alloc (Below.refl _ _) _) _)) (fun hHeld => ?_)
                      clear hK K
                      refine norm_ (a' := ?_) ?_ ?_
                      rotate_left
                      · show Act.put _ (some 48) _ = _
                        simp only [Act.put, List.setIfInBounds_toArray, List.set_cons_zero, List.set_cons_succ, i64_w, i32_w]
                        rfl
                      refine one_ (i := 4) (N := (some 46)) #[true, true, true, true, true, true, true, false, true, true, true, false, false] rfl rfl (by kernel_rfl) (by decide) (fun K hK => ?_)
                      obtain ⟨v1, w1_, hrun, hrow, hbel, hfr, hkeep, hsz⟩ := jr_one (c := cv) (g81 := W0.heap.size) (ds := out.take n) (below_alloc (below_alloc (Below.refl W0.heap.size W0) (.cells #[] 51)) (.cells #[.bool y.f0, .int .i64 y.f1, .string y.f2] 51)) hbase (up_ (heap_alloc_new W0 _) _) (Nat.le_refl _) (Kd.C_below HCK0.out (below_alloc (below_alloc (Below.refl W0.heap.size W0) (.cells #[] 51)) (.cells #[.bool y.f0, .int .i64 y.f1, .string y.f2] 51))) (by rw [HL.out.1]; omega)
                      rw [HL.out.1] at hrun
                      refine step_app51 (by rfl) rfl (.tmp 42) (.tmp 45) rfl rfl (by rfl) (by rfl) hrun ?_
                      refine hK.out _ _ (hSz _ (hbel)) (fun hHeld => ?_)
                      clear hK K
                      refine norm_ (a' := ?_) ?_ ?_
                      rotate_left
                      · show Act.put _ (some 46) _ = _
                        simp only [Act.put, List.setIfInBounds_toArray, List.set_cons_zero, List.set_cons_succ, i64_w, i32_w]
                        rfl
                      have h := hJ (W0.heap.size, v1, .slice (some ⟨(W0.alloc (.cells #[] 51)).heap.size, 0, none⟩) 1 1) _ (jr_early hrow hbel hfr hkeep (heap_alloc_new (W0.alloc (.cells #[] 51)) (.cells #[.bool y.f0, .int .i64 y.f1, .string y.f2] 51)) (by simp) (by simp))
                      simp only [putAll, Act.put, List.setIfInBounds_toArray, List.set_cons_zero, List.set_cons_succ] at h
                      exact h
                  · skip
                    refine value_ (w1 := W0.alloc (.cells #[.bool y.f0, .int .i64 y.f1, .string y.f2] 51)) (v := .slice (some ⟨W0.heap.size, 0, none⟩) 1 1) (by rfl) rfl (by go_simp) ?_
                    refine hK.out _ _ (hSz _ (below_alloc (Below.refl _ _) _)) (fun hHeld => ?_)
                    clear hK K
                    refine norm_ (a' := ?_) ?_ ?_
                    rotate_left
                    · show Act.put _ (some 48) _ = _
                      simp only [Act.put, List.setIfInBounds_toArray, List.set_cons_zero, List.set_cons_succ, i64_w, i32_w]
                      rfl
                    refine one_ (i := 0) (N := (some 42)) #[true, true, true, true, false, true, true, false, true, true, true, false, false] rfl rfl (by kernel_rfl) (by decide) (fun K hK => ?_)
                    refine value_ (w1 := (W0.alloc (.cells #[.bool y.f0, .int .i64 y.f1, .string y.f2] 51)).alloc (.cells #[] 51)) (v := .slice (some ⟨(W0.alloc (.cells #[.bool y.f0, .int .i64 y.f1, .string y.f2] 51)).heap.size, 0, none⟩) 0 0) (by rfl) rfl (by go_simp) ?_
                    refine hK.out _ _ (hSz _ (below_alloc (below_alloc (Below.refl _ _) _) _)) (fun hHeld => ?_)
                    clear hK K
                    refine norm_ (a' := ?_) ?_ ?_
                    rotate_left
                    · show Act.put _ (some 42) _ = _
                      simp only [Act.put, List.setIfInBounds_toArray, List.set_cons_zero, List.set_cons_succ, i64_w, i32_w]
                      rfl
                    refine one_ (i := 4) (N := (some 46)) #[true, true, true, true, true, true, true, false, true, true, true, false, false] rfl rfl (by kernel_rfl) (by decide) (fun K hK => ?_)
                    obtain ⟨v1, w1_, hrun, hrow, hbel, hfr, hkeep, hsz⟩ := jr_one (c := cv) (g81 := (W0.alloc (.cells #[.bool y.f0, .int .i64 y.f1, .string y.f2] 51)).heap.size) (ds := out.take n) (below_alloc (below_alloc (Below.refl W0.heap.size W0) (.cells #[.bool y.f0, .int .i64 y.f1, .string y.f2] 51)) (.cells #[] 51)) hbase (heap_alloc_new (W0.alloc (.cells #[.bool y.f0, .int .i64 y.f1, .string y.f2] 51)) (.cells #[] 51)) (by simp) (Kd.C_below HCK0.out (below_alloc (below_alloc (Below.refl W0.heap.size W0) (.cells #[.bool y.f0, .int .i64 y.f1, .string y.f2] 51)) (.cells #[] 51))) (by rw [HL.out.1]; omega)
                    rw [HL.out.1] at hrun
                    refine step_app51 (by rfl) rfl (.tmp 42) (.tmp 45) rfl rfl (by rfl) (by rfl) hrun ?_
                    refine hK.out _ _ (hSz _ (hbel)) (fun hHeld => ?_)
                    clear hK K
                    refine norm_ (a' := ?_) ?_ ?_
                    rotate_left
                    · show Act.put _ (some 46) _ = _
                      simp only [Act.put, List.setIfInBounds_toArray, List.set_cons_zero, List.set_cons_succ, i64_w, i32_w]
                      rfl
                    have h := hJ ((W0.alloc (.cells #[.bool y.f0, .int .i64 y.f1, .string y.f2] 51)).heap.size, v1, .slice (some ⟨W0.heap.size, 0, none⟩) 1 1) _ (jr_early hrow hbel hfr hkeep (up_ (heap_alloc_new W0 _) _) (Nat.le_refl _) (by simp))
                    simp only [putAll, Act.put, List.setIfInBounds_toArray, List.set_cons_zero, List.set_cons_succ] at h
                    exact h
                rintro ⟨g64, v68, v70⟩ W5 hJR
                refine norm_ (a' := ?_) ?_ ?_
                rotate_left
                · simp only [putAll, Act.put, List.setIfInBounds_toArray, List.set_cons_zero, List.set_cons_succ]
                  rfl
                replace hJR : JR W0 w.heap.size (out.take n) y v68 v70 W5 := hJR
                refine one_ (i := 7) (N := (some 49)) #[true, true, true, true, true, true, true, true, true, true, true, false, false] rfl rfl (by kernel_rfl) (by decide) (fun K hK => ?_)
                obtain ⟨v71, W2, hrun, hrow, hbel, hfr⟩ := jr_two hJR hbase (by rw [HL.out.1]; omega)
                refine step_app51 (by rfl) rfl (.tmp 46) (.tmp 48) rfl rfl (by rfl) (by rfl) hrun ?_
                refine hK.out _ _ (hSz _ (hbel)) (fun hHeld => ?_)
                clear hK K
                refine norm_ (a' := ?_) ?_ ?_
                rotate_left
                · show Act.put _ (some 49) _ = _
                  simp only [Act.put, List.setIfInBounds_toArray, List.set_cons_zero, List.set_cons_succ, i64_w, i32_w]
                  rfl
                clear hJR hrun
                refine one_ (i := 11) (N := (some 53)) #[true, true, true, true, true, true, true, true, true, true, true, true, false] rfl rfl (by kernel_rfl) (by decide) (fun K hK => ?_)
                obtain ⟨v75, W3, hrun, hrow3, hbel3⟩ := jr_three (c := cv - n) hrow hbel hfr HCD0.out hbase (by simp only [List.length_append, HL.out.1, HL.out.2, List.length_singleton]; omega)
                rw [HL.out.2] at hrun
                refine step_app51 (by rfl) rfl (.tmp 49) (.tmp 52) rfl rfl (by rfl) (by rfl) hrun ?_
                refine hK.out _ _ (hSz _ (hbel3)) (fun hHeld => ?_)
                clear hK K
                refine norm_ (a' := ?_) ?_ ?_
                rotate_left
                · show Act.put _ (some 53) _ = _
                  simp only [Act.put, List.setIfInBounds_toArray, List.set_cons_zero, List.set_cons_succ, i64_w, i32_w]
                  rfl
                clear hrun
                refine pure_ (i := 12) (N := (some 3)) (v := ?_) (a' := ?_) #[true, true, true, true, true, true, true, true, true, true, true, true, true] rfl rfl (by kernel_rfl) (fun _ _ _ h => h) (Or.inl ⟨by rfl, ?_⟩) ?_ ?_
                rotate_left
                · intro w'
                  go_simp
                  with_reducible rfl
                rotate_left
                · simp only [Act.put, List.setIfInBounds_toArray, List.set_cons_zero, List.set_cons_succ, i64_w, i32_w]
                  rfl
                refine done_ (by kernel_rfl) ?_
                have HR3 := Aside0.mk hrow3
                have HBF : Aside0 (Below w.heap.size w W3) := ⟨below_step S1.out (below_step SB.out hbel3)⟩
                clear hrow3 hbel3 hrow hbel hfr hHeld hSz hW0
                have HE : Aside0 (out.take n ++ [y] ++ out.drop n = out.take n ++ y :: out.drop n) := ⟨by simp⟩
                have hln : Aside0 ((out.take n ++ [y] ++ out.drop n).length = i + 1) := ⟨by simp only [List.length_append, HL.out.1, HL.out.2, List.length_singleton]; omega⟩
                have HSO : Aside0 (Sor (out.take n ++ [y] ++ out.drop n)) := ⟨by rw [HE.out]; exact sor_ins (by rw [List.take_append_drop]; exact H.out.2.2.2) HY.out D.out E.out⟩
                generalize out.take n ++ [y] ++ out.drop n = out2 at HR3 hln HSO
                clear HE HL HCD0 HCK0 HCD HCK HCT HCF HCV O
                go_wp2
                go_roundw
                case rel => exact ⟨i + 1, out2, ⟨by omega, by omega, hln.out, HSO.out⟩, by go_num, HR3, HBF⟩
                case measure => simp [intOf]; omega
      · have hdone : (decide (i < ns.length) = false) ∨ (decide (i < ns.length) = true ∧ decide ((i : Int) < 12) = false) := by
          by_cases h : i < ns.length
          · exact .inr ⟨decide_eq_true (by omega), decide_eq_false (by omega)⟩
          · exact .inl (decide_eq_false (by omega))
        clear hlt
        rcases hdone with hd1 | ⟨hd1, hd2⟩
        all_goals
          go_wp2_with fail
          go_meet
          exact ⟨i, out, ⟨H.out.2.1, H.out.2.2.1, H.out.2.2.2⟩, O, S1⟩
  case rest =>
    obtain ⟨i, out, H, O, S1⟩ := hcut
    obtain ⟨wo, rfl⟩ : ∃ wo : World, wo = wc := ⟨_, rfl⟩
    obtain ⟨Av, cv, rfl, hcv, hCv⟩ := own51_C O.out H.out.2.1
    have HCV := Aside0.mk hCv
    have hlen : Aside0 (out.length = i) := ⟨H.out.2.1⟩
    have hi12 : i ≤ 12 := H.out.1
    have SO : Aside0 (Sor out) := ⟨H.out.2.2⟩
    clear hCv O H HR hown0
    have hb0 : Aside0 (Below wo.heap.size wo wo) := ⟨Below.refl _ _⟩
    as_aux_lemma =>
      go_wp2
      go_loopw [56] (fun s56 wr => ∃ k : Nat, k ≤ i ∧ s56 = .int .i64 k ∧ Aside0 (Below wo.heap.size wo wr)) (fun s56 _ => i - (intOf s56).toNat)
      case atStart => exact ⟨0, Nat.zero_le _, rfl, hb0⟩
      case round =>
        clear hb0
        obtain ⟨k, hk, rfl, S2⟩ := hrel
        obtain ⟨wp, rfl⟩ : ∃ wp : World, wp = wr := ⟨_, rfl⟩
        by_cases hlt : k < i
        · have hdk : decide (k < i) = true := decide_eq_true hlt
          obtain ⟨ao, rfl, c0, c1, c2⟩ := at_T51 (Kd.C_below HCV.out S2.out) (k : Int) (by omega) (by omega)
          simp only [Int.toNat_natCast] at c0 c1 c2
          have Y0 : rd_T51 out (k : Int) = out.getD k z51 := by unfold rd_T51; rw [Int.toNat_natCast]
          rw [Y0] at c0 c1 c2
          have hmv : Aside0 (out.getD k z51 ∈ smpV) := ⟨SO.out.2 _ (getD_mem out k (by have := hlen.out; omega))⟩
          generalize hv : out.getD k z51 = v at c0 c1 c2 hmv
          have HV := Aside0.mk hv
          clear hv Y0
          go_upto_region 14 with (fail)
          obtain ⟨W, hW⟩ : ∃ W, W = wp.alloc (.cells #[.bool v.f0, .int .i64 v.f1, .string v.f2] 51) := ⟨_, rfl⟩
          rw [← hW]
          have hnew : Aside0 (W.heap[wp.heap.size]? = some (.cells (enc51 v).toArray 51 (0, 0))) := ⟨by rw [hW]; exact heap_alloc_new wp _⟩
          have hbal : Aside0 (Below wo.heap.size wo W) := ⟨by rw [hW]; exact below_alloc S2.out _⟩
          clear hW c0 c1 c2 S2 hdk
          generalize wp.heap.size = g at hnew ⊢
          have hC2 : Aside0 (Kd.C k51 W (some ao) i out) := ⟨Kd.C_below HCV.out hbal.out⟩
          have hb0 : Aside0 (Below W.heap.size W W) := ⟨Below.refl _ _⟩
          go_wp2
          go_loopw [9, 63] (fun s9 s63 w2 => ∃ j c : Nat, j ≤ i ∧ s63 = .int .i64 j ∧ s9 = .int .i64 c ∧ c ≤ j ∧ Aside0 (((out.take j).filter (fun o => ltB o v)).length = c) ∧ Aside0 (Below W.heap.size W w2)) (fun _ s63 _ => i - (intOf s63).toNat)
          case atStart => exact ⟨0, 0, Nat.zero_le _, rfl, rfl, Nat.le_refl _, ⟨by simp⟩, hb0⟩
          case round =>
            clear hb0
            obtain ⟨j, c, hj, rfl, rfl, hcj, FC, S3⟩ := hrel
            obtain ⟨wq, rfl⟩ : ∃ wq : World, wq = wr := ⟨_, rfl⟩
            have hnew2 := Aside0.mk ((S3.out.block _ (blk_lt hnew.out)).trans hnew.out)
            by_cases hjt : j < i
            · have hdj : decide (j < i) = true := decide_eq_true hjt
              obtain ⟨ao2, e2, c0, c1, c2⟩ := at_T51 (Kd.C_below hC2.out S3.out) (j : Int) (by omega) (by omega)
              cases e2
              simp only [Int.toNat_natCast] at c0 c1 c2
              have Y0 : rd_T51 out (j : Int) = out.getD j z51 := by unfold rd_T51; rw [Int.toNat_natCast]
              rw [Y0] at c0 c1 c2
              have hmx : out.getD j z51 ∈ smpV := SO.out.2 _ (getD_mem out j (by have := hlen.out; omega))
              have hless : value_Less.f (out.getD j z51).f0 (out.getD j z51).f1 (out.getD j z51).f2 v.f0 v.f1 v.f2 = some (ltB (out.getD j z51) v) := okB_iff (List.all_eq_true.1 (List.all_eq_true.1 tot_all _ hmx) v hmv.out)
              have HL := Aside0.mk hless
              clear Y0 hless hmx
              generalize hx : out.getD j z51 = x at c0 c1 c2 HL
              have HX := Aside0.mk hx
              clear hx
              generalize hb : ltB x v = b at HL
              have FS := Aside0.mk (filter_snoc (by have := hlen.out; omega) HX.out b hb)
              clear hb
              go_upto_region 17 with (fail)
              obtain ⟨W2, hW2⟩ : ∃ W2, W2 = wq.alloc (.cells #[.bool x.f0, .int .i64 x.f1, .string x.f2] 51) := ⟨_, rfl⟩
              rw [← hW2]
              have hx2 : W2.heap[wq.heap.size]? = some (.cells (enc51 x).toArray 51 (0, 0)) := by rw [hW2]; exact heap_alloc_new wq _
              have hv2 : W2.heap[g]? = some (.cells (enc51 v).toArray 51 (0, 0)) := by rw [hW2]; exact up_ hnew2.out _
              have S4 : Aside0 (Below W.heap.size W W2) := ⟨by rw [hW2]; exact below_alloc S3.out _⟩
              clear hW2 c0 c1 c2 S3 hnew2
              generalize wq.heap.size = g2 at hx2 ⊢
              have x0 := (blk_cell hx2 0).trans rfl
              have x1 := (blk_cell hx2 1).trans rfl
              have x2 := (blk_cell hx2 2).trans rfl
              have v0 := (blk_cell hv2 0).trans rfl
              have v1 := (blk_cell hv2 1).trans rfl
              have v2 := (blk_cell hv2 2).trans rfl
              clear hx2 hv2
              have hbb : b = true ∨ b = false := by cases b <;> simp
              rcases hbb with rfl | rfl
              · go_wp2_with ((with_reducible refine (value_Less.calls _ _ _ _ _ _ true _ HL.out).mono ?_); rintro e W3 ⟨rfl, hbc⟩)
                go_roundw
                case rel => exact ⟨j + 1, c + 1, by omega, by go_num, by go_num, by omega, ⟨by rw [FS.out, FC.out]; rfl⟩, ⟨below_step S4.out hbc⟩⟩
                case measure => simp [intOf]; omega
              · go_wp2_with ((with_reducible refine (value_Less.calls _ _ _ _ _ _ false _ HL.out).mono ?_); rintro e W3 ⟨rfl, hbc⟩)
                go_roundw
                case rel => exact ⟨j + 1, c, by omega, by go_num, rfl, by omega, ⟨by rw [FS.out, FC.out]; rfl⟩, ⟨below_step S4.out hbc⟩⟩
                case measure => simp [intOf]; omega
            · have hdj : decide (j < i) = false := decide_eq_false hjt
              have hck : c ≤ k := by
                have h1 := FC.out
                rw [List.take_of_length_le (by have := hlen.out; omega)] at h1
                have := ahead_of (by have := hlen.out; omega) HV.out SO.out
                omega
              have hdck : decide (k < c) = false := decide_eq_false (by omega)
              clear hcj hjt hck
              have S4 : Aside0 (Below wo.heap.size wo wq) := ⟨below_step hbal.out S3.out⟩
              have hC3 : Aside0 (Kd.C k51 wq (some ao) i out) := ⟨Kd.C_below hC2.out S3.out⟩
              clear FC S3 hnew hbal hC2
              as_aux_lemma =>
                rcases Nat.eq_zero_or_pos k with hk0 | hk0
                · have hdk : decide (0 < k) = false := decide_eq_false (by omega)
                  clear hk0
                  go_upto_region 20 with (fail)
                  go_quiet (fail)
                  have S5 : Aside0 (Below wo.heap.size wo (wq.drewN nq)) := ⟨below_step S4.out (pw_below_drewN (Below.refl _ _) _)⟩
                  clear S4
                  generalize wq.drewN nq = w5 at S5 ⊢
                  go_wp2
                  go_roundw
                  case rel => exact ⟨k + 1, by omega, by go_num, S5⟩
                  case measure => simp [intOf]; omega
                · have hdk : decide (0 < k) = true := decide_eq_true (by omega)
                  obtain ⟨m, hkm⟩ : ∃ m, k = m + 1 := ⟨k - 1, by omega⟩
                  have hm1 : IntKind.i64.wrap ((k : Int) - 1) = (m : Int) := by rw [show (k : Int) - 1 = (m : Int) by omega]; exact IntWalk.i64_in _ (by omega)
                  have hmi : m < i := by omega
                  obtain ⟨ao2, e2, c0, c1, c2⟩ := at_T51 hC3.out (m : Int) (by omega) (by omega)
                  cases e2
                  simp only [Int.toNat_natCast] at c0 c1 c2
                  have Y0 : rd_T51 out (m : Int) = out.getD m z51 := by unfold rd_T51; rw [Int.toNat_natCast]
                  rw [Y0] at c0 c1 c2
                  have hmp : out.getD m z51 ∈ smpV := SO.out.2 _ (getD_mem out m (by have := hlen.out; omega))
                  have hnb : ((out.getD m z51).f0 && !v.f0 || !v.f0 && decide (v.f1 < (out.getD m z51).f1) || (out.getD m z51).f0 && badS (out.getD m z51) v) = false := not_badS hmp hmv.out (next_not (by have := hlen.out; omega) rfl (hkm ▸ HV.out) SO.out)
                  clear Y0 hmp hkm hk0 HV
                  generalize out.getD m z51 = p at c0 c1 c2 hnb
                  have y0 : wq.cell? ⟨g, 0, none⟩ = some (.bool v.f0) := (blk_cell hnew2.out 0).trans rfl
                  have y1 : wq.cell? ⟨g, 1, none⟩ = some (.int .i64 v.f1) := (blk_cell hnew2.out 1).trans rfl
                  have y2 : wq.cell? ⟨g, 2, none⟩ = some (.string v.f2) := (blk_cell hnew2.out 2).trans rfl
                  obtain ⟨p0, p1, p2⟩ := p
                  obtain ⟨v0, v1, v2⟩ := v
                  simp only at c0 c1 c2 y0 y1 y2 hnb
                  have HC0 := Aside0.mk (And.intro c0 (And.intro c1 (And.intro c2 (And.intro y0 (And.intro y1 y2)))))
                  clear c0 c1 c2 y0 y1 y2 hnew2 hmv hC3 SO HCV
                  cases p0
                  · cases v0
                    · have hdv : decide (v1 < p1) = false := by simpa using hnb
                      clear hnb
                      go_upto_region 20 with (fail)
                      obtain ⟨c0, c1, c2, y0, y1, y2⟩ := HC0.out
                      clear HC0
                      go_quiet (fail)
                      clear c0 c1 c2 y0 y1 y2 hm1
                      have S5 : Aside0 (Below wo.heap.size wo (wq.drewN nq)) := ⟨below_step S4.out (pw_below_drewN (Below.refl _ _) _)⟩
                      clear S4
                      generalize wq.drewN nq = w5 at S5 ⊢
                      go_wp2
                      go_roundw
                      case rel => exact ⟨k + 1, by omega, by go_num, S5⟩
                      case measure => simp [intOf]; omega

                    · clear hnb
                      go_upto_region 20 with (fail)
                      obtain ⟨c0, c1, c2, y0, y1, y2⟩ := HC0.out
                      clear HC0
                      go_quiet (fail)
                      clear c0 c1 c2 y0 y1 y2 hm1
                      have S5 : Aside0 (Below wo.heap.size wo (wq.drewN nq)) := ⟨below_step S4.out (pw_below_drewN (Below.refl _ _) _)⟩
                      clear S4
                      generalize wq.drewN nq = w5 at S5 ⊢
                      go_wp2
                      go_roundw
                      case rel => exact ⟨k + 1, by omega, by go_num, S5⟩
                      case measure => simp [intOf]; omega

                  · cases v0
                    · simp at hnb
                    · have hdv : (!(Op.bytesLess p2.toList v2.toList || p2.toList == v2.toList)) = false := by simpa [badS] using hnb
                      clear hnb
                      go_upto_region 20 with (fail)
                      obtain ⟨c0, c1, c2, y0, y1, y2⟩ := HC0.out
                      clear HC0
                      go_quiet (fail)
                      clear c0 c1 c2 y0 y1 y2 hm1
                      have S5 : Aside0 (Below wo.heap.size wo (wq.drewN nq)) := ⟨below_step S4.out (pw_below_drewN (Below.refl _ _) _)⟩
                      clear S4
                      generalize wq.drewN nq = w5 at S5 ⊢
                      go_wp2
                      go_roundw
                      case rel => exact ⟨k + 1, by omega, by go_num, S5⟩
                      case measure => simp [intOf]; omega

        · have hdk : decide (k < i) = false := decide_eq_false hlt
          clear hlt hk
          have S3 : Aside0 (Below w.heap.size w wp) := ⟨below_step S1.out S2.out⟩
          go_wp2_with (first
            | ((with_reducible refine (value_Number.calls _ _ _ _ _ rfl).mono ?_); rintro e w6 ⟨rfl, hb6⟩; have S6 := Aside0.mk (below_step S3.out hb6); clear S3)
            | ((with_reducible refine (value_Text.calls _ _ _ _ _ rfl).mono ?_); rintro e w7 ⟨rfl, hb7⟩; have S7 := Aside0.mk (below_step S6.out hb7); clear S6)
            | ((with_reducible refine (value_Less.calls _ _ _ _ _ _ true _ rfl).mono ?_); rintro e w8 ⟨rfl, hb8⟩; have S8 := Aside0.mk (below_step S7.out hb8); clear S7)
            | ((with_reducible refine (runs_calls _ (Val.tb HTAB S8.out)).mono ?_); rintro e w9 ⟨rfl, hb9⟩; have S9 := Aside0.mk (below_step S8.out hb9); clear S8))
          go_ret
          exact ⟨rfl, S9.out⟩
end Go.Proofs.YtpkdfjlkhfjlcaaDoor.MVal
