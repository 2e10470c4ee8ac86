import Derived.Test.YtallbobeehbkoaaBoxesF
namespace Go.Proofs.Ytallbobeehbkoaa.Boxes
open Go.RowKit Go.Proofs.YtallbobeehbkoaaW.PrintWords Go.Proofs.Ytallbobeehbkoaa.PInboxPlays

set_option linter.unusedVariables false
set_option linter.unusedSimpArgs false
def oDv (xs : List Int) (j : Nat) : Dv := ⟨rd xs j % 3, 1, j, none, 0, 0⟩
def oDs (xs : List Int) (k : Nat) : List Dv := (List.range k).map (oDv xs)
theorem oDs_succ (xs : List Int) (k : Nat) : oDs xs (k + 1) = oDs xs k ++ [oDv xs k] := by simp [oDs, List.range_succ]
theorem oDs_length (xs : List Int) (k : Nat) : (oDs xs k).length = k := by simp [oDs]
def oBox (xs : List Int) (c1 : Int) (k : Nat) : Int → List Dv := strike (putTo (fun _ => []) (oDs xs k)) c1
theorem oBox_succ (xs : List Int) (c1 : Int) (k : Nat) : strike (putTo (oBox xs c1 k) [oDv xs k]) c1 = oBox xs c1 (k + 1) := by
  funext q
  simp only [oBox, strike, putTo, oDs_succ, List.filter_append, List.nil_append]
  by_cases e : q = c1
  · rw [if_pos e, if_pos e]
  · rw [if_neg e, if_neg e, if_neg e]
theorem wf_small (x : Int) (h0 : -1000 ≤ x) (h1 : x ≤ 1000) : wf x := by
  have a : IntKind.i64.min = -9223372036854775808 := rfl
  have b : IntKind.i64.max = 9223372036854775807 := rfl
  show (decide (IntKind.i64.min ≤ x) && decide (x ≤ IntKind.i64.max)) = true
  simp only [Bool.and_eq_true, decide_eq_true_eq, a, b]
  omega
theorem mod3_wf (x : Int) : wf (x % 3) := by
  have h1 := Int.emod_nonneg x (show (3 : Int) ≠ 0 by omega)
  have h2 := Int.emod_lt_of_pos x (show (0 : Int) < 3 by omega)
  exact wf_small _ (by omega) (by omega)
theorem within3 (x : Int) : broadsidebook_Within.f x 0 2 = some (x % 3) := within_is x 2 (by omega) (by omega)

theorem row_append {W : World} {base : Nat} {v : Value} {ds : List Dv} (h : Row W base v ds) : W.ownsRow base 29 4 v ds.length (flat ds) := h

structure OInv (w : World) (xs : List Int) (c1 : Int) (ga gb k : Nat) (va : Value) (wr : World) (Fa Fb : Nat → Prop) : Prop where
  boxa : Box wr w.heap.size ga 0 Fa (fun _ => []) []
  boxb : Box wr w.heap.size gb k Fb (oBox xs c1 k) (oDs xs k)
  row : Row wr w.heap.size va (oDs xs k)
  apart : ∀ q, Fa q → ¬ Fb q
  ra : ∀ q, va.ownBlock = some q → ¬ Fa q
  rb : ∀ q, va.ownBlock = some q → ¬ Fb q
  la : ∀ q, Fa q → q < wr.heap.size
  lb : ∀ q, Fb q → q < wr.heap.size
  sa : ∀ q, Fa q → w.heap.size ≤ q
  sb : ∀ q, Fb q → w.heap.size ≤ q
  bel : Below w.heap.size w wr
theorem OInv.below {w : World} {xs : List Int} {c1 : Int} {ga gb k : Nat} {va : Value} {wr w' : World} {Fa Fb : Nat → Prop} (h : OInv w xs c1 ga gb k va wr Fa Fb) (hb : Below wr.heap.size wr w') : OInv w xs c1 ga gb k va w' Fa Fb :=
  { h with boxa := h.boxa.below hb, boxb := h.boxb.below hb, row := h.row.below hb, la := fun q hq => Nat.lt_of_lt_of_le (h.la q hq) hb.size, lb := fun q hq => Nat.lt_of_lt_of_le (h.lb q hq) hb.size, bel := below_step h.bel hb }
/-- all = append(all, d); b.Put(d); b.Drain((c + 1) % 3). -/
theorem OInv.next {w : World} {xs : List Int} {c1 : Int} {ga gb k : Nat} {va v1 : Value} {W w1 w2 w3 : World} {Fa Fb : Nat → Prop} (h : OInv w xs c1 ga gb k va W Fa Fb) (hg : W.grownBy w1 va.ownBlock)
    (hr : Row w1 w.heap.size v1 (oDs xs k ++ [oDv xs k])) (hat : v1.ownBlock = va.ownBlock ∨ ∃ b, v1.ownBlock = some b ∧ W.heap.size ≤ b) {o : Obj}
    (hb : Box w2 w.heap.size gb (k + 1) (fun q => Fb q ∨ (w1.alloc o).heap.size ≤ q) (putTo (oBox xs c1 k) [oDv xs k]) (oDs xs k ++ [oDv xs k])) (hT : Turn Fb (w1.alloc o) w2)
    (hb3 : Box w3 w.heap.size gb (k + 1) (fun q => Fb q ∨ (w1.alloc o).heap.size ≤ q) (strike (putTo (oBox xs c1 k) [oDv xs k]) c1) (oDs xs k ++ [oDv xs k])) (hT3 : Turn (fun q => Fb q ∨ (w1.alloc o).heap.size ≤ q) w2 w3) :
    OInv w xs c1 ga gb (k + 1) v1 w3 Fa (fun q => (Fb q ∨ (w1.alloc o).heap.size ≤ q) ∧ q < w3.heap.size) := by
  have hs : w.heap.size ≤ W.heap.size := h.bel.size
  have e : (w1.alloc o).heap.size = w1.heap.size + 1 := by simp
  have hTb : Turn (fun q => va.ownBlock = some q ∨ Fb q) W w3 :=
    (((Turn.of_grown (S := fun q => va.ownBlock = some q ∨ Fb q) hg (fun q hq => .inl hq)).trans (S2 := fun _ => False) (Turn.of_below (below_alloc (Below.refl _ _) o)) (fun _ hq => hq.elim)).trans hT (fun q hq => .inl (.inr hq))).trans hT3 (fun q hq => by
      rcases hq with hq | hq
      · exact .inl (.inr hq)
      · have := hg.size
        exact .inr (by omega))
  have hT13 : Turn Fb (w1.alloc o) w3 := hT.trans hT3 (fun q hq => hq)
  refine { boxa := h.boxa.turn hTb (fun q hq hn => ?_), boxb := ?_, row := ?_, apart := fun q hq hn => ?_, ra := fun q hq hn => ?_, rb := fun q hq hn => ?_, la := fun q hq => Nat.lt_of_lt_of_le (h.la q hq) hTb.size, lb := fun q hq => hq.2, sa := h.sa, sb := fun q hq => ?_, bel := ?_ }
  · rcases hn with hn | hn
    · exact h.ra q hn hq
    · exact h.apart q hq hn
  · rw [← oBox_succ, oDs_succ]
    exact hb3.trim
  · rw [oDs_succ]
    refine (hr.below (below_alloc (Below.refl _ _) o)).turn hT13 (fun q hq hn => ?_)
    rcases hat with hat | ⟨b, hb, hle⟩
    · exact h.rb q (hat ▸ hq) hn
    · rw [hq] at hb
      cases hb
      have := h.lb q hn
      omega
  · rcases hn.1 with hn | hn
    · exact h.apart q hq hn
    · have := h.la q hq
      have := hg.size
      omega
  · rcases hat with hat | ⟨b, hb, hle⟩
    · exact h.ra q (hat ▸ hq) hn
    · rw [hq] at hb
      cases hb
      have := h.la q hn
      omega
  · have hlt := (hr.lt q hq).2
    rcases hn.1 with hn | hn
    · rcases hat with hat | ⟨b, hb, hle⟩
      · exact h.rb q (hat ▸ hq) hn
      · rw [hq] at hb
        cases hb
        have := h.lb q hn
        omega
    · omega
  · rcases hq.1 with hq | hq
    · exact h.sb q hq
    · have := hg.size
      omega
  · refine h.bel.trans (hTb.below hs (fun q hq => ?_))
    rcases hq with hq | hq
    · exact (h.row.lt q hq).1
    · exact h.sb q hq

def oLook (xs : List Int) (c : Int) (k : Nat) : List Dv := putTo (fun _ => []) (oDs xs k) c
theorem oLook_box (xs : List Int) (c c1 : Int) (k : Nat) (h : c ≠ c1) : oBox xs c1 k c = oLook xs c k := by
  simp only [oBox, strike, if_neg h]
  rfl
theorem oLook_mem (xs : List Int) (c : Int) (k : Nat) : ∀ d ∈ oLook xs c k, d ∈ oDs xs k ∧ d.c = c := by
  intro d hd
  simp only [oLook, putTo, List.nil_append, List.mem_filter, beq_iff_eq] at hd
  exact hd
theorem oDs_reads (w : World) (xs : List Int) (k : Nat) : ∀ d ∈ oDs xs k, Reads w (fun _ => []) d := by
  intro d hd
  simp only [oDs, List.mem_map] at hd
  obtain ⟨j, _, rfl⟩ := hd
  exact ⟨rfl, Nat.le_refl _, Kd.C_nil _ _⟩
theorem oDs_s (xs : List Int) (k : Nat) : ∀ d ∈ oDs xs k, 0 ≤ d.s := by
  intro d hd
  simp only [oDs, List.mem_map] at hd
  obtain ⟨j, _, rfl⟩ := hd
  exact Int.natCast_nonneg j
theorem oLook_length (xs : List Int) (c : Int) (k : Nat) : (oLook xs c k).length ≤ k := by
  simp only [oLook, putTo, List.nil_append]
  exact Nat.le_trans (List.length_filter_le _ _) (by rw [oDs_length]; exact Nat.le_refl _)
theorem oLook_rising (xs : List Int) (c : Int) (k : Nat) : (oLook xs c k).Pairwise (fun a b => a.s < b.s) := by
  simp only [oLook, putTo, List.nil_append]
  refine List.Pairwise.filter _ ?_
  rw [oDs, List.pairwise_map]
  exact List.pairwise_lt_range.imp (fun {a b} h => by simp only [oDv]; omega)
def oLast (L : List Dv) (j : Nat) : Int := if j = 0 then -1 else (L.getD (j - 1) (dv 0)).s
theorem oLast_lt {L : List Dv} (hp : L.Pairwise (fun a b => a.s < b.s)) (h0 : ∀ d ∈ L, 0 ≤ d.s) {j : Nat} {d : Dv} (hd : L[j]? = some d) : oLast L j < d.s := by
  unfold oLast
  split
  · have := h0 d (List.mem_of_getElem? hd)
    omega
  · have hj := (List.getElem?_eq_some_iff.1 hd).1
    have e : L.getD (j - 1) (dv 0) = L[j - 1] := by rw [List.getD_eq_getElem?_getD, List.getElem?_eq_getElem (by omega)]; rfl
    have e2 : L[j] = d := (List.getElem?_eq_some_iff.1 hd).2
    rw [e, ← e2]
    exact List.pairwise_iff_getElem.1 hp (j - 1) j (by omega) hj (by omega)
theorem oLast_succ {L : List Dv} {j : Nat} {d : Dv} (hd : L[j]? = some d) : oLast L (j + 1) = d.s := by
  unfold oLast
  rw [if_neg (by omega), Nat.add_sub_cancel, List.getD_eq_getElem?_getD, hd]
  rfl

set_option maxHeartbeats 4000000 in
theorem order_calls (A : Option Addr) (cp : Nat) (xs : List Int) (who : Int) (w : World) (hr : ReadsInt w .i64 A xs.length xs) (hb : xs.length * 8 ≤ 140737488351232) (c c1 : Int) (hc : who % 3 = c) (hcc : c = 0 ∧ c1 = 1 ∨ c = 1 ∧ c1 = 2 ∨ c = 2 ∧ c1 = 0) :
    Calls Try.prog 5 #[.slice A xs.length cp, .int .i64 who] w fun e w' => e = .returned (.bool true) ∧ Below w.heap.size w w' := by
  have hu34 := Try.underlying34
  have hWc : broadsidebook_Within.f who 0 2 = some c := hc ▸ within3 who
  have hcw : wf c := hc ▸ mod3_wf who
  have hne : c ≠ c1 := by omega
  have hc1w : wf c1 := wf_small _ (by omega) (by omega)
  have hdr : (wrap64 (c + 1)).tmod 3 = c1 := by
    have e : wrap64 (c + 1) = c + 1 := by unfold wrap64; omega
    rw [e]
    rcases hcc with ⟨rfl, rfl⟩ | ⟨rfl, rfl⟩ | ⟨rfl, rfl⟩ <;> rfl
  have hqw : wf ((wrap64 (c + 1)).tmod 3) := hdr.symm ▸ hc1w
  clear hcc hc
  go_enter Try.func5, Try.ntmps5
  go_wp2_with (first | (go_at_call 7; (with_reducible refine (new_calls w w.heap.size (Nat.le_refl _)).mono ?_); rintro e w1 ⟨ga, rfl, hga, hboxa, hbel1⟩) | (go_at_call 7; (with_reducible refine (new_calls w1 w.heap.size hbel1.size).mono ?_); rintro e w2 ⟨gb, rfl, hgb, hboxb, hbel2⟩) | (go_at_call 12; (with_reducible refine (broadsidebook_Within.calls who 0 2 c _ hWc).mono ?_); rintro e w3 ⟨rfl, hd3⟩) | go_in)
  have hI0 : OInv w xs c1 ga gb 0 nilS w3 (fun q => w.heap.size ≤ q ∧ q < w1.heap.size) (fun q => w1.heap.size ≤ q ∧ q < w2.heap.size) := by
    have e1 : oBox xs c1 0 = fun _ => [] := by funext q; simp [oBox, strike, putTo, oDs]
    have hb3 := hd3.below
    have hs1 := hbel1.size
    have hs2 := hbel2.size
    have hs3 := hb3.size
    exact { boxa := (hboxa.trim.below hbel2).below hb3
            boxb := by rw [e1]; exact (hboxb.trim).below hb3
            row := Row.nil _ _
            apart := fun q h1 h2 => by omega
            ra := fun q hq => by cases hq
            rb := fun q hq => by cases hq
            la := fun q h => by omega
            lb := fun q h => by omega
            sa := fun q h => h.1
            sb := fun q h => by omega
            bel := below_step (below_step hbel1 hbel2) hb3 }
  clear hboxa hboxb hbel1 hbel2 hd3
  go_loopw [7, 9] (fun v i wr => ∃ (k : Nat) (Fa Fb : Nat → Prop), k ≤ xs.length ∧ k ≤ 14 ∧ i = .int .i64 k ∧ OInv w xs c1 ga gb k v wr Fa Fb) (fun _ i _ => 14 - (intOf i).toNat)
  case atStart => exact ⟨0, _, _, Nat.zero_le _, Nat.zero_le _, rfl, hI0⟩
  case round =>
    clear hI0
    obtain ⟨k, Fa, Fb, hkl, hk14, rfl, hI⟩ := hrel
    by_cases hlt : k < xs.length ∧ k < 14
    · obtain ⟨hlt, h14⟩ := hlt
      have d1 : decide ((k : Int) < (xs.length : Int)) = true := by simpa using hlt
      have d2 : decide ((k : Int) < 14) = true := by simp; omega
      obtain ⟨ad, rfl, hcell⟩ := (hr.below hI.bel).at_ (k : Int) (by omega) (by omega)
      have hnum : (Int.toNat (k : Int)) = k := Int.toNat_natCast k
      rw [hnum] at hcell
      have hB := hI.boxb
      have hwfs : ∀ d ∈ [oDv xs k], wf d.c := by
        intro d hd
        simp only [List.mem_singleton] at hd
        subst hd
        exact mod3_wf _
      have hl : (oDs xs k).length = k := oDs_length xs k
      go_wp2_with (first | (go_at_call 12; (with_reducible refine (broadsidebook_Within.calls (rd xs k) 0 2 (rd xs k % 3) _ (within3 _)).mono ?_); rintro e w4 ⟨rfl, hd4⟩; have hI4 := hI.below hd4.below; clear hd4) | (at_builtin; refine print_append_cells w.heap.size rfl (.tmp 42) (.tmp 44) 30 29 _ 4 48 rfl Try.underlying30 info29 rfl (by omega) (by omega) _ (oDs xs k).length (flat (oDs xs k)) (oDv xs k).cells rfl (by simp [go_sem]) rfl (cells_plain _) (row_append (hI4.row.below (below_alloc (Below.refl _ _) _))) (Below.refl w.heap.size _) (by have := hI4.bel.size; simp; omega) (by omega) ?_; intro v5 w5 hown5 hb5 hgr5 hat5; have hdb := (hgr5.block w4.heap.size (by simp) (fun e => Nat.lt_irrefl _ (hI4.row.lt _ e.symm).2)).trans (heap_alloc_new w4 (.cells #[.int .i64 (rd xs k % 3), .int .i64 1, .int .i64 k, .slice none 0 0] 29 (0, 0))); have e0 := (blk_cell hdb 0).trans rfl; have e1 := (blk_cell hdb 1).trans rfl; have e2 := (blk_cell hdb 2).trans rfl; have e3 := (blk_cell hdb 3).trans rfl; have hI5 := hI4.below (below_alloc (Below.refl _ _) (.cells #[.int .i64 (rd xs k % 3), .int .i64 1, .int .i64 k, .slice none 0 0] 29)); have hb5 : Box w5 w.heap.size gb k Fb (oBox xs c1 k) (oDs xs k) := hI5.boxb.turn (S := fun q => u7.ownBlock = some q) (Turn.of_grown hgr5 (fun q hq => hq)) (fun q hq hn => hI5.rb q hn hq); have hl5 : ∀ q, Fb q → q < w5.heap.size := fun q hq => Nat.lt_of_lt_of_le (hI5.lb q hq) hgr5.size; have hs5 : w.heap.size ≤ w5.heap.size := Nat.le_trans hI5.bel.size hgr5.size) | (go_at_call 8; refine (put_calls (ds := [oDv xs k]) (hb5.below (below_alloc (Below.refl _ _) _)) (row_lit w5 0 (Nat.zero_le _) [oDv xs k] (by simp)) (fun q hq hF => by cases hq; exact absurd (hl5 _ hF) (Nat.lt_irrefl _)) hwfs (by simp; omega)).mono ?_; rintro e w6 ⟨rfl, hb6, hT6⟩) | (go_at_call 10; with_reducible refine (drain_calls hb6 c1 hc1w (by simp; omega)).mono ?_; rintro e w7 ⟨v7, rfl, hr7, hb7, hT7⟩) | go_in)
      have hI7 := hI5.next hgr5 (row_of_own hown5) hat5 hb6 hT6 hb7 hT7
      clear hI hI4 hI5 hb5 hb6 hb7 hT6 hT7 hgr5 hown5 hat5 hdb e0 e1 e2 e3 hr7 hB
      go_roundw
      case rel => exact ⟨k + 1, _, _, by omega, by omega, by go_num, hI7⟩
      case measure => simp [intOf]; omega
    · have hk : k ≤ 14 := hk14
      have hl : (oDs xs k).length = k := oDs_length xs k
      have hwfs : ∀ d ∈ oDs xs k, wf d.c := by
        intro d hd
        simp only [oDs, List.mem_map] at hd
        obtain ⟨j, _, rfl⟩ := hd
        exact mod3_wf _
      have hcase : (k < xs.length ∧ ¬ k < 14) ∨ ¬ k < xs.length := by omega
      have hnum : (Int.toNat (k : Int)) = k := Int.toNat_natCast k
      rcases hcase with ⟨d1, d2⟩ | d1
      · go_wp2_with (first | (go_at_call 8; (with_reducible refine (put_calls hI.boxa hI.row hI.ra hwfs (by omega)).mono ?_); rintro e w8 ⟨rfl, hA8, hT8⟩; have hB8 := hI.boxb.turn hT8 (fun q hb ha => hI.apart q ha hb)) | (go_at_call 9; (with_reducible refine (look_calls hA8 c hcw (by omega)).mono ?_); rintro e w9 ⟨v9, rfl, hr9, hbel9⟩; have hA9 := hA8.below hbel9; have hB9 := hB8.below hbel9; obtain ⟨A9, c9, rfl⟩ := hr9.slice) | go_in)
        have hL := oLook_length xs c k
        have hLs : (putTo (fun _ => []) (oDs xs k) c) = oLook xs c k := rfl
        rw [hLs] at hr9
        generalize hLg : oLook xs c k = L at hL hr9
        have hLm : ∀ d ∈ L, d ∈ oDs xs k ∧ d.c = c := hLg ▸ oLook_mem xs c k
        have hLr : L.Pairwise (fun a b => a.s < b.s) := hLg ▸ oLook_rising xs c k
        have hL0 : ∀ d ∈ L, 0 ≤ d.s := fun d hd => oDs_s xs k d (hLm d hd).1
        go_loopw [11, 62] (fun last i wr => ∃ j : Nat, j ≤ L.length ∧ i = .int .i64 j ∧ last = .int .i64 (oLast L j) ∧ Below w9.heap.size w9 wr) (fun _ i _ => L.length - (intOf i).toNat)
        case atStart => exact ⟨0, Nat.zero_le _, rfl, rfl, Below.refl _ _⟩
        case round =>
          obtain ⟨j, hj, rfl, rfl, hbr⟩ := hrel
          by_cases hjl : j < L.length
          · obtain ⟨d, hd⟩ : ∃ d, L[j]? = some d := ⟨_, List.getElem?_eq_getElem hjl⟩
            have hdc : d.c = c := (hLm d (List.mem_of_getElem? hd)).2
            have hlast := oLast_lt hLr hL0 hd
            have hsucc := oLast_succ hd
            have hrj := hr9.below hbr
            obtain ⟨g9, rfl⟩ : ∃ g9, A9 = some ⟨g9, 0, none⟩ := by
              rcases hrj.2 with ⟨e, h0⟩ | ⟨gv, cap, cur, e, _⟩
              · omega
              · cases e
                exact ⟨_, rfl⟩
            obtain ⟨z0, z1, z2, z3⟩ := hrj.at_ hd
            have hnj : (Int.toNat (j : Int)) = j := Int.toNat_natCast j
            have b1 : (d.c != c) = false := by simp [hdc]
            have b2 : ¬ d.s ≤ oLast L j := by omega
            go_wp2
            refine ⟨⟨j + 1, by omega, by simp, by rw [hsucc], below_alloc hbr _⟩, ?_⟩
            simp [intOf]
            omega
          · have hjk : j = L.length := by omega
            subst hjk
            have hA10 := hA9.below hbr
            have hB10 := hB9.below hbr
            have hbw : Below w.heap.size w wr := below_step (below_step (hI.bel.trans (hT8.below hI.bel.size hI.sa)) hbel9) hbr
            have hLL : oBox xs c1 k c = L := (oLook_box xs c c1 k hne).trans hLg
            have hAA : [] ++ oDs xs k = oDs xs k := List.nil_append _
            have hz : (oBox xs c1 k c1).length = 0 := by simp [oBox, strike]
            have hN0 : 0 + (oDs xs k).length ≤ 1048576 := by omega
            have hN1 : k ≤ 1048576 := by omega
            have hN2 : L.length ≤ 1048576 := by omega
            have hN3 : (oDs xs k).length ≤ 1048576 := by omega
            have hRL : ∀ W : World, ∀ d ∈ L, Reads W (fun _ => []) d := fun W d hd => oDs_reads W xs k d (hLm d hd).1
            clear hI hA8 hB8 hT8 hbel9 hA9 hB9 hbr hr9 hLm hLr hL0
            have hnL : (Int.toNat (L.length : Int)) = L.length := Int.toNat_natCast _
            go_wp2_with (first | (go_at_call 9; (with_reducible refine (look_calls hA10 c hcw hN0).mono ?_); rintro e w11 ⟨v11, rfl, hr11, hb11⟩; have hA11 := hA10.below hb11; have hB11 := hB10.below hb11; have hbw11 := below_step hbw hb11; rw [hLs, hLg] at hr11; clear hA10 hB10 hbw) | (go_at_call 9; (with_reducible refine (look_calls hB11 c hcw hN1).mono ?_); rintro e w12 ⟨v12, rfl, hr12, hb12⟩; have hA12 := hA11.below hb12; have hB12 := hB11.below hb12; have hr11 := hr11.below hb12; have hbw12 := below_step hbw11 hb12; rw [hLL] at hr12; clear hA11 hB11 hbw11) | (go_at_call 14; (with_reducible refine (gots_calls hr11 hr12 (fun _ => []) (hRL _) (fun _ _ => Nat.zero_le _) hN2).mono ?_); rintro e w13 ⟨rfl, hb13⟩; have hA13 := hA12.below hb13; have hB13 := hB12.below hb13; have hbw13 := below_step hbw12 hb13; clear hA12 hB12 hbw12) | (go_at_call 11; (with_reducible refine (all_calls hA13 hN0).mono ?_); rintro e w14 ⟨v14, rfl, hr14, hb14⟩; have hA14 := hA13.below hb14; have hB14 := hB13.below hb14; have hbw14 := below_step hbw13 hb14; rw [hAA] at hr14; clear hA13 hB13 hbw13) | (go_at_call 11; (with_reducible refine (all_calls hB14 hN1).mono ?_); rintro e w15 ⟨v15, rfl, hr15, hb15⟩; have hB15 := hB14.below hb15; have hr14 := hr14.below hb15; have hbw15 := below_step hbw14 hb15; clear hA14 hB14 hbw14) | (go_at_call 14; (with_reducible refine (gots_calls hr14 hr15 (fun _ => []) (oDs_reads _ xs k) (fun _ _ => Nat.zero_le _) hN3).mono ?_); rintro e w16 ⟨rfl, hb16⟩; have hB16 := hB15.below hb16; have hbw16 := below_step hbw15 hb16; clear hB15 hbw15) | (go_at_call 9; (with_reducible refine (look_calls hB16 c1 hc1w hN1).mono ?_); rintro e w17 ⟨v17, rfl, hr17, hb17⟩; have hbw17 := below_step hbw16 hb17; obtain ⟨A17, c17, e17⟩ := hr17.slice; rw [hz] at e17; subst e17; clear hB16 hbw16) | (go_at_call 3; (with_reducible refine (runs_calls w17).mono ?_); rintro e w18 ⟨rfl, hb18⟩; have hbw18 := below_step hbw17 hb18) | go_in)
            go_ret
            exact ⟨rfl, hbw18⟩
      · go_wp2_with (first | (go_at_call 8; (with_reducible refine (put_calls hI.boxa hI.row hI.ra hwfs (by omega)).mono ?_); rintro e w8 ⟨rfl, hA8, hT8⟩; have hB8 := hI.boxb.turn hT8 (fun q hb ha => hI.apart q ha hb)) | (go_at_call 9; (with_reducible refine (look_calls hA8 c hcw (by omega)).mono ?_); rintro e w9 ⟨v9, rfl, hr9, hbel9⟩; have hA9 := hA8.below hbel9; have hB9 := hB8.below hbel9; obtain ⟨A9, c9, rfl⟩ := hr9.slice) | go_in)
        have hL := oLook_length xs c k
        have hLs : (putTo (fun _ => []) (oDs xs k) c) = oLook xs c k := rfl
        rw [hLs] at hr9
        generalize hLg : oLook xs c k = L at hL hr9
        have hLm : ∀ d ∈ L, d ∈ oDs xs k ∧ d.c = c := hLg ▸ oLook_mem xs c k
        have hLr : L.Pairwise (fun a b => a.s < b.s) := hLg ▸ oLook_rising xs c k
        have hL0 : ∀ d ∈ L, 0 ≤ d.s := fun d hd => oDs_s xs k d (hLm d hd).1
        go_loopw [11, 62] (fun last i wr => ∃ j : Nat, j ≤ L.length ∧ i = .int .i64 j ∧ last = .int .i64 (oLast L j) ∧ Below w9.heap.size w9 wr) (fun _ i _ => L.length - (intOf i).toNat)
        case atStart => exact ⟨0, Nat.zero_le _, rfl, rfl, Below.refl _ _⟩
        case round =>
          obtain ⟨j, hj, rfl, rfl, hbr⟩ := hrel
          by_cases hjl : j < L.length
          · obtain ⟨d, hd⟩ : ∃ d, L[j]? = some d := ⟨_, List.getElem?_eq_getElem hjl⟩
            have hdc : d.c = c := (hLm d (List.mem_of_getElem? hd)).2
            have hlast := oLast_lt hLr hL0 hd
            have hsucc := oLast_succ hd
            have hrj := hr9.below hbr
            obtain ⟨g9, rfl⟩ : ∃ g9, A9 = some ⟨g9, 0, none⟩ := by
              rcases hrj.2 with ⟨e, h0⟩ | ⟨gv, cap, cur, e, _⟩
              · omega
              · cases e
                exact ⟨_, rfl⟩
            obtain ⟨z0, z1, z2, z3⟩ := hrj.at_ hd
            have hnj : (Int.toNat (j : Int)) = j := Int.toNat_natCast j
            have b1 : (d.c != c) = false := by simp [hdc]
            have b2 : ¬ d.s ≤ oLast L j := by omega
            go_wp2
            refine ⟨⟨j + 1, by omega, by simp, by rw [hsucc], below_alloc hbr _⟩, ?_⟩
            simp [intOf]
            omega
          · have hjk : j = L.length := by omega
            subst hjk
            have hA10 := hA9.below hbr
            have hB10 := hB9.below hbr
            have hbw : Below w.heap.size w wr := below_step (below_step (hI.bel.trans (hT8.below hI.bel.size hI.sa)) hbel9) hbr
            have hLL : oBox xs c1 k c = L := (oLook_box xs c c1 k hne).trans hLg
            have hAA : [] ++ oDs xs k = oDs xs k := List.nil_append _
            have hz : (oBox xs c1 k c1).length = 0 := by simp [oBox, strike]
            have hN0 : 0 + (oDs xs k).length ≤ 1048576 := by omega
            have hN1 : k ≤ 1048576 := by omega
            have hN2 : L.length ≤ 1048576 := by omega
            have hN3 : (oDs xs k).length ≤ 1048576 := by omega
            have hRL : ∀ W : World, ∀ d ∈ L, Reads W (fun _ => []) d := fun W d hd => oDs_reads W xs k d (hLm d hd).1
            clear hI hA8 hB8 hT8 hbel9 hA9 hB9 hbr hr9 hLm hLr hL0
            have hnL : (Int.toNat (L.length : Int)) = L.length := Int.toNat_natCast _
            go_wp2_with (first | (go_at_call 9; (with_reducible refine (look_calls hA10 c hcw hN0).mono ?_); rintro e w11 ⟨v11, rfl, hr11, hb11⟩; have hA11 := hA10.below hb11; have hB11 := hB10.below hb11; have hbw11 := below_step hbw hb11; rw [hLs, hLg] at hr11; clear hA10 hB10 hbw) | (go_at_call 9; (with_reducible refine (look_calls hB11 c hcw hN1).mono ?_); rintro e w12 ⟨v12, rfl, hr12, hb12⟩; have hA12 := hA11.below hb12; have hB12 := hB11.below hb12; have hr11 := hr11.below hb12; have hbw12 := below_step hbw11 hb12; rw [hLL] at hr12; clear hA11 hB11 hbw11) | (go_at_call 14; (with_reducible refine (gots_calls hr11 hr12 (fun _ => []) (hRL _) (fun _ _ => Nat.zero_le _) hN2).mono ?_); rintro e w13 ⟨rfl, hb13⟩; have hA13 := hA12.below hb13; have hB13 := hB12.below hb13; have hbw13 := below_step hbw12 hb13; clear hA12 hB12 hbw12) | (go_at_call 11; (with_reducible refine (all_calls hA13 hN0).mono ?_); rintro e w14 ⟨v14, rfl, hr14, hb14⟩; have hA14 := hA13.below hb14; have hB14 := hB13.below hb14; have hbw14 := below_step hbw13 hb14; rw [hAA] at hr14; clear hA13 hB13 hbw13) | (go_at_call 11; (with_reducible refine (all_calls hB14 hN1).mono ?_); rintro e w15 ⟨v15, rfl, hr15, hb15⟩; have hB15 := hB14.below hb15; have hr14 := hr14.below hb15; have hbw15 := below_step hbw14 hb15; clear hA14 hB14 hbw14) | (go_at_call 14; (with_reducible refine (gots_calls hr14 hr15 (fun _ => []) (oDs_reads _ xs k) (fun _ _ => Nat.zero_le _) hN3).mono ?_); rintro e w16 ⟨rfl, hb16⟩; have hB16 := hB15.below hb16; have hbw16 := below_step hbw15 hb16; clear hB15 hbw15) | (go_at_call 9; (with_reducible refine (look_calls hB16 c1 hc1w hN1).mono ?_); rintro e w17 ⟨v17, rfl, hr17, hb17⟩; have hbw17 := below_step hbw16 hb17; obtain ⟨A17, c17, e17⟩ := hr17.slice; rw [hz] at e17; subst e17; clear hB16 hbw16) | (go_at_call 3; (with_reducible refine (runs_calls w17).mono ?_); rintro e w18 ⟨rfl, hb18⟩; have hbw18 := below_step hbw17 hb18) | go_in)
            go_ret
            exact ⟨rfl, hbw18⟩
end Go.Proofs.Ytallbobeehbkoaa.Boxes
