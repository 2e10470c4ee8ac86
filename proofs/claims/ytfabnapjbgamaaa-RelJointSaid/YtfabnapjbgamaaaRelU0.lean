import Derived.Test.YtfabnapjbgamaaaRelR0
import Derived.Test.YtfabnapjbgamaaaRelS
namespace Go.Proofs.Ytfabnapjbgamaaa.MRelTrue
open Go.RowKit Go.Lib Go.Proofs.YtfabnapjbgamaaaW.PrintWords Go.Proofs.YtfabnapjbgamaaaW.PrintLast Go.Proofs.YtfabnapjbgamaaaW.PrintMore
set_option linter.unusedVariables false
set_option linter.unusedSimpArgs false
/-! ### RelTrue: samples, and what Both leaves -/
theorem fin_tl (a0 : ByteArray) (a1 a2 a3 : Int) (a4 b0 : ByteArray) (b1 b2 b3 : Int) (b4 c0 d0 : ByteArray) : (pred_Both.fin a0 a1 a2 a3 a4 b0 b1 b2 b3 b4).map (fun r => r.2) = (pred_Both.fin c0 a1 a2 a3 a4 d0 b1 b2 b3 b4).map (fun r => r.2) := by
  unfold pred_Both.fin
  show ((pred_Holds.f b0 b1 b2 b3 b4 true 0 a4).bind _).map _ = ((pred_Holds.f b0 b1 b2 b3 b4 true 0 a4).bind _).map _
  cases pred_Holds.f b0 b1 b2 b3 b4 true 0 a4 with
  | none => rfl
  | some v => cases v <;> rfl
theorem core_tl (a0 : ByteArray) (a1 a2 a3 : Int) (a4 b0 : ByteArray) (b1 b2 b3 : Int) (b4 c0 d0 : ByteArray) : (pred_Both.core a0 a1 a2 a3 a4 b0 b1 b2 b3 b4).map (fun r => r.2) = (pred_Both.core c0 a1 a2 a3 a4 d0 b1 b2 b3 b4).map (fun r => r.2) := by
  unfold pred_Both.core
  by_cases h1 : a1 = 1
  · rw [if_pos h1, if_pos h1]
    by_cases h2 : b1 = 1
    · rw [if_pos h2, if_pos h2]
      by_cases h3 : mx a2 b2 > mn a3 b3
      · rw [if_pos h3, if_pos h3]
      · rw [if_neg h3, if_neg h3]; rfl
    · rw [if_neg h2, if_neg h2]
  · rw [if_neg h1, if_neg h1]
    by_cases h2 : a1 = 3
    · rw [if_pos h2, if_pos h2]
      by_cases h3 : a4.size < b4.size
      · rw [if_pos h3, if_pos h3]; exact fin_tl _ _ _ _ _ _ _ _ _ _ _ _
      · rw [if_neg h3, if_neg h3]; exact fin_tl _ _ _ _ _ _ _ _ _ _ _ _
    · rw [if_neg h2, if_neg h2]
      by_cases h3 : a1 = 2
      · rw [if_pos h3, if_pos h3]; exact fin_tl _ _ _ _ _ _ _ _ _ _ _ _
      · rw [if_neg h3, if_neg h3]
theorem both_tl (a b : S23) : (mk.both a b).map (fun p => (strip p.1, p.2)) = (mk.both (strip a) (strip b)).map (fun p => (strip p.1, p.2)) := by
  have h : (pred_Both.f a.f0 a.f1 a.f2 a.f3 a.f4 b.f0 b.f1 b.f2 b.f3 b.f4).map (fun r => r.2) = (pred_Both.f aa a.f1 a.f2 a.f3 a.f4 aa b.f1 b.f2 b.f3 b.f4).map (fun r => r.2) := by
    unfold pred_Both.f
    by_cases h : a.f1 > b.f1
    · rw [if_pos h, if_pos h]; exact core_tl _ _ _ _ _ _ _ _ _ _ _ _
    · rw [if_neg h, if_neg h]; exact core_tl _ _ _ _ _ _ _ _ _ _ _ _
  have g : ∀ o : Option (ByteArray × Int × Int × Int × ByteArray × Bool), (o.map fun r => ((⟨r.1, r.2.1, r.2.2.1, r.2.2.2.1, r.2.2.2.2.1⟩ : S23), r.2.2.2.2.2)).map (fun p => (strip p.1, p.2)) = (o.map (fun r => r.2)).map (fun q => ((⟨aa, q.1, q.2.1, q.2.2.1, q.2.2.2.1⟩ : S23), q.2.2.2.2)) := fun o => by cases o <;> rfl
  unfold mk.both
  rw [g]
  show _ = ((pred_Both.f aa a.f1 a.f2 a.f3 a.f4 aa b.f1 b.f2 b.f3 b.f4).map _).map _
  rw [g, h]
def eqS (x y : S23) : Bool := decide (x.f1 = y.f1) && (decide (x.f2 = y.f2) && (decide (x.f3 = y.f3) && (x.f4.toList == y.f4.toList)))
theorem eqS_strip {x y : S23} (h : eqS x y = true) : strip x = strip y := by
  unfold eqS at h
  simp at h
  obtain ⟨e1, e2, e3, e4⟩ := h
  unfold strip
  rw [e1, e2, e3, toList_inj e4]
theorem tt_wid : (tcs.all fun a => tcs.all fun b => match mk.both a b with | some (r, true) => (eqS r a || eqS r b) && (cvs (H1 a) (H1 r) smp && cvs (H1 b) (H1 r) smp) | _ => true) = true := by kernel_rfl
theorem strip_tcs {c : S23} (h : c ∈ tcs) : strip c = c := by
  obtain ⟨e, _⟩ := tcs_form h
  unfold strip
  cases c
  simp only at e
  rw [e]
theorem wid_rng {l1 h1 l2 h2 : Int} (p : l1 ≤ l2) (q : h2 ≤ h1) : widB (rng l1 h1) (rng l2 h2) = true := by
  rw [widB_iff]
  intro x hx hh
  rcases smp_cases hx with ⟨n, rfl⟩ | ⟨s, rfl⟩
  · rw [rng_num] at hh ⊢
    simp at hh ⊢
    omega
  · rw [rng_txt] at hh; cases hh
theorem bothC_wid {a b r : S23} (ha : isC a) (hb : isC b) (h : (mk.both a b).map (fun p => (strip p.1, p.2)) = some (r, true)) : isC r ∧ widB a r = true ∧ widB b r = true := by
  rcases ha with ⟨l1, h1, p1, p2, p3, p4, rfl⟩ | ha <;> rcases hb with ⟨l2, h2, q1, q2, q3, q4, rfl⟩ | hb
  · by_cases hh : mx l1 l2 ≤ mn h1 h2
    · have e : mk.both (rng l1 h1) (rng l2 h2) = some (rng (mx l1 l2) (mn h1 h2), true) := by simp [mk.both, pred_Both.f, pred_Both.core, rng, Int.not_lt.2 hh]
      rw [e] at h
      have e2 : r = rng (mx l1 l2) (mn h1 h2) := by simpa [strip, rng] using h.symm
      rw [e2]
      have m1 : l1 ≤ mx l1 l2 ∧ l2 ≤ mx l1 l2 ∧ mx l1 l2 ≤ 9 := by unfold mx; split <;> omega
      have m2 : mn h1 h2 ≤ h1 ∧ mn h1 h2 ≤ h2 := by unfold mn; split <;> omega
      exact ⟨.inl ⟨_, _, by omega, m1.2.2, hh, by omega, rfl⟩, wid_rng m1.1 m2.1, wid_rng m1.2.1 m2.2⟩
    · have e : mk.both (rng l1 h1) (rng l2 h2) = some (z23, false) := by simp [mk.both, pred_Both.f, pred_Both.core, pred_Both.none_, rng, Int.not_le.1 hh, z23]
      rw [e] at h
      simp at h
  · obtain ⟨e0, e1⟩ := tcs_kind hb
    have e : mk.both (rng l1 h1) b = some (z23, false) := by rcases e1 with e1 | e1 <;> simp [mk.both, pred_Both.f, pred_Both.core, pred_Both.none_, rng, e1, z23]
    rw [e] at h
    simp at h
  · obtain ⟨e0, e1⟩ := tcs_kind ha
    have e : mk.both a (rng l2 h2) = some (z23, false) := by rcases e1 with e1 | e1 <;> simp [mk.both, pred_Both.f, pred_Both.core, pred_Both.none_, rng, e1, z23]
    rw [e] at h
    simp at h
  · have hd := List.all_eq_true.1 (List.all_eq_true.1 tt_wid a ha) b hb
    obtain ⟨⟨r0, ok⟩, hr, hp⟩ := Option.map_eq_some_iff.1 h
    have e1 : ok = true := congrArg Prod.snd hp
    have e2 : strip r0 = r := congrArg Prod.fst hp
    subst e1
    rw [hr] at hd
    simp only [Bool.and_eq_true, Bool.or_eq_true] at hd
    obtain ⟨h1, h2, h3⟩ := hd
    rw [← e2]
    refine ⟨?_, h2, h3⟩
    rcases h1 with h1 | h1
    · rw [eqS_strip h1, strip_tcs ha]; exact .inr ha
    · rw [eqS_strip h1, strip_tcs hb]; exact .inr hb
theorem both_wid {a b r : S23} (ha : okC a) (hb : okC b) (h : mk.both a b = some (r, true)) : okC r ∧ widB a r = true ∧ widB b r = true := by
  have h2 : (mk.both (strip a) (strip b)).map (fun p => (strip p.1, p.2)) = some (strip r, true) := by
    rw [← both_tl, h]
    rfl
  exact bothC_wid (a := strip a) (b := strip b) (r := strip r) ha hb h2
/-- What Make leaves of a normal form and another one. -/
theorem l2_full {ns : List ByteArray} : ∀ (b out res : List S23), Rises out → (∀ x ∈ out, okC x ∧ x.f0 ∈ ns) → (∀ y ∈ b, okC y ∧ y.f0 ∈ ns) → mk.l2 out b = some (some res) →
    Rises res ∧ (∀ r ∈ res, okC r ∧ r.f0 ∈ ns) ∧ (∀ x ∈ out, ∃ r ∈ res, r.f0 = x.f0 ∧ widB x r = true) ∧ (∀ y ∈ b, ∃ r ∈ res, r.f0 = y.f0 ∧ widB y r = true)
  | [], out, res, hR, ho, hb, h => by
    rw [mk.l2] at h
    cases h
    exact ⟨hR, ho, fun x hx => ⟨x, hx, rfl, widB_refl x⟩, fun y hy => by cases hy⟩
  | c :: t, out, res, hR, ho, hb, h => by
    have hc := hb c List.mem_cons_self
    have ht : ∀ y ∈ t, okC y ∧ y.f0 ∈ ns := fun y hy => hb y (List.mem_cons_of_mem _ hy)
    rw [mk.l2] at h
    cases hm : mk.met out c.f0
    · rw [if_neg (by simp [hm])] at h
      by_cases h5 : out.length = 5
      · rw [if_pos h5] at h
        cases h
      · rw [if_neg h5] at h
        have hR' := rises_put hR c hm
        have hin : ∀ x ∈ out, x ∈ out.take (mk.cnt out c.f0) ++ [c] ++ out.drop (mk.cnt out c.f0) := fun x hx => by
          have := List.take_append_drop (mk.cnt out c.f0) out
          rw [← this] at hx
          rcases List.mem_append.1 hx with hx | hx
          · exact List.mem_append.2 (.inl (List.mem_append.2 (.inl hx)))
          · exact List.mem_append.2 (.inr hx)
        have hcin : c ∈ out.take (mk.cnt out c.f0) ++ [c] ++ out.drop (mk.cnt out c.f0) := List.mem_append.2 (.inl (List.mem_append.2 (.inr (by simp))))
        have ho' : ∀ x ∈ out.take (mk.cnt out c.f0) ++ [c] ++ out.drop (mk.cnt out c.f0), okC x ∧ x.f0 ∈ ns := fun x hx => by
          rcases List.mem_append.1 hx with hx | hx
          · rcases List.mem_append.1 hx with hx | hx
            · exact ho x (List.mem_of_mem_take hx)
            · simp only [List.mem_singleton] at hx
              rw [hx]
              exact hc
          · exact ho x (List.mem_of_mem_drop hx)
        obtain ⟨g1, g2, g3, g4⟩ := l2_full t _ res hR' ho' ht h
        refine ⟨g1, g2, fun x hx => g3 x (hin x hx), fun y hy => ?_⟩
        rcases List.mem_cons.1 hy with rfl | hy
        · exact g3 y hcin
        · exact g4 y hy
    · obtain ⟨hk, hnm⟩ := met_true hm
      rw [if_pos hm] at h
      generalize hx : out.getD (mk.cnt out c.f0) z23 = x at h hnm
      have hxo : x ∈ out := by rw [← hx]; exact get_mem hk
      obtain ⟨⟨r, ok⟩, hr, h2⟩ := Option.bind_eq_some_iff.1 h
      cases ok
      · simp at h2
      · have h2 : mk.l2 (out.set (mk.cnt out c.f0) r) t = some (some res) := by simpa using h2
        obtain ⟨r1, r2, r3⟩ := both_wid (ho x hxo).1 hc.1 hr
        have hrn := both_f0 x c hnm r hr
        have hR' := rises_set hR (mk.cnt out c.f0) r hk (by rw [hx, hrn])
        have hrin : r ∈ out.set (mk.cnt out c.f0) r := by
          have := get_mem (l := out.set (mk.cnt out c.f0) r) (t := mk.cnt out c.f0) (by simpa using hk)
          rw [List.getD_eq_getElem?_getD, List.getElem?_set_self hk] at this
          simpa using this
        have ho' : ∀ z ∈ out.set (mk.cnt out c.f0) r, okC z ∧ z.f0 ∈ ns := fun z hz => by
          rcases List.mem_or_eq_of_mem_set hz with hz | hz
          · exact ho z hz
          · rw [hz, hrn]
            exact ⟨r1, (ho x hxo).2⟩
        obtain ⟨g1, g2, g3, g4⟩ := l2_full t _ res hR' ho' ht h2
        obtain ⟨q, hq, e1, w1⟩ := g3 r hrin
        refine ⟨g1, g2, fun z hz => ?_, fun y hy => ?_⟩
        · obtain ⟨i, hi, rfl⟩ := mem_get hz
          by_cases hik : i = mk.cnt out c.f0
          · rw [hik, hx]
            exact ⟨q, hq, e1.trans hrn, widB_trans r2 w1⟩
          · refine g3 _ ?_
            have e : (out.set (mk.cnt out c.f0) r).getD i z23 = out.getD i z23 := by
              rw [List.getD_eq_getElem?_getD, List.getD_eq_getElem?_getD, List.getElem?_set_ne (fun e2 => hik e2.symm)]
            rw [← e]
            exact get_mem (by simpa using hi)
        · rcases List.mem_cons.1 hy with rfl | hy
          · exact ⟨q, hq, e1.trans (hrn.trans hnm), widB_trans r3 w1⟩
          · exact g4 y hy
/-! ### samples -/
def smpV (c : S23) : S40 := if c.f1 = 1 then num40 c.f2 else txt40 c.f4
def att (c : S23) : S42 := ⟨c.f0, smpV c⟩
theorem samp_step (k : Nat) (x3 : List S42) (l : List S23) (i : Nat) (hi : i < l.length) (hx : x3.length ≤ 1000) : rel_Sample.l0 (k + 1) x3 l l.length i = rel_Sample.l0 k (x3 ++ [att (l.getD i z23)]) l l.length (wrap64 ((i : Int) + 1)) := by
  rw [rel_Sample.l0, if_pos (by omega), if_pos (by omega), if_pos (by omega), rd23]
  unfold value_Text.f value_Number.f
  simp only [Option.bind_some]
  unfold att smpV
  by_cases h : (l.getD i z23).f1 = 1
  · rw [if_pos h, if_pos h, if_pos (by omega)]
  · rw [if_neg h, if_neg h, if_pos (by omega)]
theorem samp_l0 : ∀ (d i k : Nat) (x3 : List S42) (l : List S23), i + d = l.length → d + 1 ≤ k → l.length ≤ 100 → x3.length ≤ i → rel_Sample.l0 k x3 l l.length i = some (x3 ++ (l.drop i).map att)
  | 0, i, k, x3, l, h, hk, hl, hx => by
    obtain ⟨k, rfl⟩ : ∃ q, k = q + 1 := ⟨k - 1, by omega⟩
    rw [rel_Sample.l0, if_neg (by omega), List.drop_of_length_le (by omega)]
    simp
  | d + 1, i, k, x3, l, h, hk, hl, hx => by
    obtain ⟨k, rfl⟩ : ∃ q, k = q + 1 := ⟨k - 1, by omega⟩
    rw [samp_step k x3 l i (by omega) (by omega), wrap_nat i (by omega), samp_l0 d (i + 1) k _ l (by omega) (by omega) hl (by simp; omega), drop_get l i (by omega)]
    simp
theorem samp_char (l : List S23) (hl : l.length ≤ 9) (k : Nat) (hk : 20 ≤ k) : rel_Sample.f k l = some (l.map att) := by
  have h := samp_l0 l.length 0 k [] l (by omega) (by omega) (by omega) (Nat.le_refl _)
  rw [List.nil_append, List.drop_zero] at h
  exact h
theorem tcs_self : (tcs.all fun c => H1 c (smpV c) && ((texts40 13).any fun x => decide (x.f0 = (smpV c).f0) && (decide (x.f1 = (smpV c).f1) && (x.f2.toList == (smpV c).f2.toList)))) = true := by kernel_rfl
theorem smp_self {c : S23} (h : okC c) : H1 c (smpV c) = true ∧ smpV c ∈ smp := by
  have e : smpV (strip c) = smpV c := rfl
  have e2 : H1 (strip c) (smpV c) = H1 c (smpV c) := rfl
  rcases h with ⟨lo, hi, p1, p2, p3, p4, h⟩ | h
  · rw [← e2, ← e, h]
    have e3 : smpV (rng lo hi) = num40 lo := rfl
    rw [e3, rng_num]
    exact ⟨by simp [p3], mem_num _ (by omega) (by omega)⟩
  · have hd := List.all_eq_true.1 tcs_self _ h
    rw [Bool.and_eq_true, List.any_eq_true] at hd
    obtain ⟨h1, x, hx, h2⟩ := hd
    refine ⟨h1, ?_⟩
    simp only [Bool.and_eq_true, decide_eq_true_eq, beq_iff_eq] at h2
    obtain ⟨q1, q2, q3⟩ := h2
    have : x = smpV c := by
      rw [← e]
      cases x
      simp only at q1 q2 q3
      cases hs : smpV (strip c)
      rw [hs] at q1 q2 q3
      simp only at q1 q2 q3
      rw [q1, q2, toList_inj q3]
    rw [← this]
    exact List.mem_append.2 (.inr hx)
theorem getA_map : ∀ {p : List S23}, Rises p → ∀ c ∈ p, getA (p.map att) c.f0 = some (smpV c)
  | [], _, c, hc => by cases hc
  | x :: t, h, c, hc => by
    rw [List.map_cons, getA]
    by_cases e : (att x).f0.toList = c.f0.toList
    · rw [if_pos e]
      have e2 : x.f0 = c.f0 := toList_inj e
      have := rises_inj h List.mem_cons_self hc e2
      rw [this]
      rfl
    · rw [if_neg e]
      rcases List.mem_cons.1 hc with e2 | hc
      · exact absurd (by rw [e2]; rfl) e
      · exact getA_map (rises_tail h) c hc
/-- What covers a normal form matches its sample. -/
theorem mch_samp {a b : List S23} (hb : Rises b) (kb : ∀ c ∈ b, okC c) (h : ∀ x ∈ a, ∃ r ∈ b, r.f0 = x.f0 ∧ widB x r = true) : mch a (b.map att) = true := by
  unfold mch
  rw [List.all_eq_true]
  intro x hx
  obtain ⟨r, hr, e, w⟩ := h x hx
  rw [← e, getA_map hb r hr]
  obtain ⟨s1, s2⟩ := smp_self (kb r hr)
  exact (widB_iff x r).1 w _ s2 s1
theorem fo_small : (tcs.all fun c => decide (c.f4.size ≤ 12)) = true := by kernel_rfl
theorem val_right {c : S23} (h : okC c) : value_Right.f (smpV c).f0 (smpV c).f1 (smpV c).f2 = some true := by
  have e : smpV (strip c) = smpV c := rfl
  rw [← e]
  rcases h with ⟨lo, hi, p1, p2, p3, p4, h⟩ | h
  · rw [h]
    have e3 : smpV (rng lo hi) = num40 lo := rfl
    rw [e3]
    simp [value_Right.f]
  · have hs : (strip c).f4.size ≤ 12 := by simpa using List.all_eq_true.1 fo_small _ h
    have e3 : smpV (strip c) = txt40 (strip c).f4 := by
      unfold smpV
      rcases (tcs_kind h).2 with e1 | e1 <;> simp [e1]
    rw [e3]
    unfold value_Right.f
    simp
    omega
theorem bl_nms : ∀ s ∈ nms, ∀ t ∈ nms, cmpB s t < 0 → Op.bytesLess s.toList t.toList = true := by
  have hd : (nms.all fun s => nms.all fun t => !(decide (cmpB s t < 0)) || Op.bytesLess s.toList t.toList) = true := by kernel_rfl
  intro s hs t ht h
  have := List.all_eq_true.1 (List.all_eq_true.1 hd s hs) t ht
  rw [decide_eq_true h] at this
  simpa using this
theorem right_l0 (l : List S23) (hl : Nice nms l) : ∀ (d i k : Nat), i + d = l.length → d + 12 ≤ k → tuple_Right.l0 k (l.map att) (l.map att) (l.length : Int) i = some true
  | 0, i, k, h, hk => by
    obtain ⟨k, rfl⟩ : ∃ q, k = q + 1 := ⟨k - 1, by omega⟩
    rw [tuple_Right.l0, if_neg (by omega)]
    have := hl.len
    simp
    omega
  | d + 1, i, k, h, hk => by
    obtain ⟨k, rfl⟩ : ∃ q, k = q + 1 := ⟨k - 1, by omega⟩
    have ih := right_l0 l hl d (i + 1) k (by omega) (by omega)
    have hg : ∀ j, j < l.length → (l.map att).getD j z42 = att (l.getD j z23) := fun j hj => by
      rw [List.getD_eq_getElem?_getD, List.getD_eq_getElem?_getD, List.getElem?_map, List.getElem?_eq_getElem hj]
      rfl
    have hi : i < l.length := by omega
    have hm := get_mem hi
    have h5 := hl.len
    have hn : tuple_Name.f k (l.getD i z23).f0 = some true := up_fuel (g := fun k => tuple_Name.f k (l.getD i z23).f0) (fun k => tuple_Name.mono _ k) (nms_ok _ (hl.name _ hm)).1 k (by omega)
    rw [tuple_Right.l0, if_pos (by omega), if_pos (by omega), if_pos (by simp; omega), rd42, hg i hi]
    show (tuple_Name.f k (l.getD i z23).f0).bind _ = _
    rw [hn]
    simp only [Option.bind_some, if_true]
    show (value_Right.f (smpV (l.getD i z23)).f0 (smpV (l.getD i z23)).f1 (smpV (l.getD i z23)).f2).bind _ = _
    rw [val_right (hl.ok _ hm)]
    simp only [Option.bind_some, if_true]
    rw [wrap_nat i (by omega)]
    by_cases h0 : (i : Int) > 0
    · have ew : wrap64 ((i : Int) - 1) = ((i - 1 : Nat) : Int) := by unfold wrap64; omega
      rw [if_pos h0, ew, if_pos (by omega), if_pos (by simp; omega), rd42, hg (i - 1) (by omega)]
      have hb : Op.bytesLess (att (l.getD (i - 1) z23)).f0.toList (att (l.getD i z23)).f0.toList = true := bl_nms _ (hl.name _ (get_mem (by omega))) _ (hl.name _ hm) (hl.rises (i - 1) i (by omega) hi)
      rw [if_pos hb]
      exact ih
    · rw [if_neg h0]
      exact ih
theorem right_samp {l : List S23} (hl : Nice nms l) (k : Nat) (hk : 30 ≤ k) : tuple_Right.f k (l.map att) = some true := by
  unfold tuple_Right.f
  rw [List.length_map]
  exact right_l0 l hl l.length 0 k (by omega) (by have := hl.len; omega)
/-- Joint. -/
theorem joint_char {a b : List S23} (ha : Nice nms a) (hb : Nice nms b) (k : Nat) (hk : 30 ≤ k) :
    ∃ res, rel_Joint.f k a b = some (if mt a b = true then res.map att else [], mt a b) ∧ (mt a b = true → Nice nms res ∧ mch a (res.map att) = true ∧ mch b (res.map att) = true) := by
  obtain ⟨res, h1, h2⟩ := make_char nms_ok ha hb
  have h3 : pred_Make.f k (a ++ b) = some (if mt a b = true then some res else none) := up_fuel (g := fun k => pred_Make.f k (a ++ b)) (fun k => pred_Make.mono _ k) h1 k (by omega)
  have l1 := ha.len
  have l2 := hb.len
  refine ⟨res, ?_, fun h => ?_⟩
  · unfold rel_Joint.f
    rw [if_pos (by omega), h3]
    cases hm : mt a b
    · rfl
    · simp only [Option.bind_some, if_true]
      rw [samp_char res (by have := h2 hm; omega) k (by omega)]
      rfl
  · rw [if_pos h] at h1
    unfold pred_Make.f at h1
    rw [l1_ok (a ++ b) (fun c hc => (List.mem_append.1 hc).elim (ha.ok c) (hb.ok c)) (fun c hc => (nms_ok _ ((List.mem_append.1 hc).elim (ha.name c) (hb.name c))).1)] at h1
    simp only [Option.bind_some, if_true] at h1
    rw [l2_app a [] b (by simpa using ha.rises) (by simpa using ha.len), List.nil_append] at h1
    obtain ⟨g1, g2, g3, g4⟩ := l2_full (ns := nms) b a res ha.rises (fun x hx => ⟨ha.ok x hx, ha.name x hx⟩) (fun y hy => ⟨hb.ok y hy, hb.name y hy⟩) h1
    exact ⟨{ rises := g1, ok := fun c hc => (g2 c hc).1, len := h2 h, name := fun c hc => (g2 c hc).2 }, mch_samp g1 (fun c hc => (g2 c hc).1) g3, mch_samp g1 (fun c hc => (g2 c hc).1) g4⟩
/-! ### the tuples of the law -/
theorem vals_smp (n : Int) : ∃ v : S40, broadsidekeep_Value.f n = some (v.f0, v.f1, v.f2) ∧ v ∈ smp := by
  have hst : ∀ t ∈ fo_tx, txt40 t ∈ smp := fun t ht => by
    have hd : (fo_tx.all fun t => strs.any fun s => s.toList == t.toList) = true := by kernel_rfl
    obtain ⟨s, hs, e⟩ := List.any_eq_true.1 (List.all_eq_true.1 hd t ht)
    have e2 : s = t := toList_inj (by simpa using e)
    rw [← e2]
    exact List.mem_append.2 (.inr (List.mem_map.2 ⟨s, (show s ∈ strs.take 13 from hs), rfl⟩))
  unfold broadsidekeep_Value.f
  rw [fo_within _ 9 (by omega) (by omega), fo_within _ 6 (by omega) (by omega)]
  generalize wrap64 (Int.tdiv n 2) = x
  by_cases h : Go.bits .and .i64 n 1 = 0
  · rw [if_pos h]
    exact ⟨num40 (x % (9 + 1)), rfl, mem_num _ (by omega) (by omega)⟩
  · rw [if_neg h]
    unfold broadsidekeep_texts.f
    simp only [Option.bind_some]
    rw [if_pos (by omega), if_pos (by simp; omega)]
    refine ⟨txt40 _, rfl, hst _ ?_⟩
    have hr : x % (6 + 1) = 0 ∨ x % (6 + 1) = 1 ∨ x % (6 + 1) = 2 ∨ x % (6 + 1) = 3 ∨ x % (6 + 1) = 4 ∨ x % (6 + 1) = 5 ∨ x % (6 + 1) = 6 := by omega
    rcases hr with h | h | h | h | h | h | h <;> rw [h] <;> simp [rdOf, fo_tx]
structure TV (r : List S42) : Prop where
  len : r.length ≤ 5
  val : ∀ x ∈ r, x.f1 ∈ smp
theorem tuv_next (k : Nat) (x3 : List S42) (a b : List Int) (i : Nat) (c : Bool) (hi : i < 7) (hI : TV x3) (hc : c = true → (x3.length : Int) < 5) :
    ∃ x3' : List S42, TV x3' ∧ broadsidekeep_Tuple_Tuple.j1 (k + 1) x3 i (rdOf ByteArray.empty nms i) nms (nms.length : Int) i c a b = broadsidekeep_Tuple_Tuple.l0 k x3' nms (nms.length : Int) (wrap64 ((i : Int) + 1)) a b := by
  rw [broadsidekeep_Tuple_Tuple.j1]
  cases c
  · exact ⟨x3, hI, by rw [if_neg (by simp)]⟩
  · have h5 := hc rfl
    obtain ⟨t, ht⟩ := pick_some b i (by omega)
    obtain ⟨q, hq, hqs⟩ := vals_smp t
    rw [if_pos rfl, ht]
    simp only [Option.bind_some]
    rw [hq]
    simp only [Option.bind_some]
    rw [if_pos (by omega)]
    refine ⟨_, { len := by simp; omega, val := fun x hx => ?_ }, rfl⟩
    rcases List.mem_append.1 hx with h | h
    · exact hI.val x h
    · simp only [List.mem_singleton] at h
      subst h
      exact hqs
theorem tuv_all (a b : List Int) : ∀ (d i k : Nat) (x3 : List S42), i + d = 7 → 2 * d + 1 ≤ k → TV x3 → ∃ r, broadsidekeep_Tuple_Tuple.l0 k x3 nms (nms.length : Int) i a b = some r ∧ TV r
  | 0, i, k, x3, h, hk, hI => by
    obtain ⟨k, rfl⟩ : ∃ q, k = q + 1 := ⟨k - 1, by omega⟩
    have h7 : (nms.length : Int) = 7 := rfl
    exact ⟨x3, by rw [broadsidekeep_Tuple_Tuple.l0, if_neg (by omega)], hI⟩
  | d + 1, i, k, x3, h, hk, hI => by
    obtain ⟨k, rfl⟩ : ∃ q, k = q + 1 + 1 := ⟨k - 2, by omega⟩
    obtain ⟨c, hc, e1⟩ := tup_step (k + 1) x3 a b i (by omega)
    obtain ⟨y, hy, e2⟩ := tuv_next k x3 a b i c (by omega) hI hc
    rw [e1, e2, wrap_nat i (by omega)]
    exact tuv_all a b d (i + 1) k y (by omega) (by omega) hy
theorem tuv_nice (a b : List Int) (k : Nat) (hk : 20 ≤ k) : ∃ r, broadsidekeep_Tuple_Tuple.f k a b = some r ∧ TV r :=
  tuv_all a b 7 0 k [] rfl (by omega) ⟨Nat.zero_le _, fun x hx => by simp at hx⟩
theorem getA_some {l : List S42} {s : ByteArray} {v : S40} (h : getA l s = some v) : (∃ x ∈ l, x.f0 = s ∧ x.f1 = v) := by
  induction l with
  | nil => cases h
  | cons x t ih =>
    rw [getA] at h
    split at h
    · rename_i e
      cases h
      exact ⟨x, List.mem_cons_self, toList_inj e, rfl⟩
    · obtain ⟨y, hy, e⟩ := ih h
      exact ⟨y, List.mem_cons_of_mem _ hy, e⟩
theorem mch_iff {p : List S23} {l : List S42} : mch p l = true ↔ ∀ c ∈ p, ∃ v, getA l c.f0 = some v ∧ H1 c v = true := by
  unfold mch
  rw [List.all_eq_true]
  constructor
  · intro h c hc
    have := h c hc
    cases hg : getA l c.f0 with
    | none => rw [hg] at this; cases this
    | some v => rw [hg] at this; exact ⟨v, rfl, this⟩
  · intro h c hc
    obtain ⟨v, h1, h2⟩ := h c hc
    rw [h1]
    exact h2
theorem both_mt {a b : List S23} (ha : Rises a) (hb : Rises b) {l : List S42} (hl : TV l) (h1 : mch a l = true) (h2 : mch b l = true) : mt a b = true := by
  rw [mch_iff] at h1 h2
  rw [mt_iff ha]
  constructor
  · intro x hx y hy e
    obtain ⟨v, g1, w1⟩ := h1 x hx
    obtain ⟨u, g2, w2⟩ := h2 y hy
    rw [← e, g1] at g2
    cases g2
    obtain ⟨z, hz, _, e2⟩ := getA_some g1
    exact (okB_iff x y).2 ⟨v, e2 ▸ hl.val z hz, w1, w2⟩
  · rw [← uni_len]
    refine Nat.le_trans (nodup_le (uni a b) (l.map (·.f0)) (uni_nodup ha hb) (fun s hs => ?_)) (by rw [List.length_map]; exact hl.len)
    rcases (uni_mem s).1 hs with ⟨x, hx, e⟩ | ⟨y, hy, e⟩
    · obtain ⟨v, g, _⟩ := h1 x hx
      obtain ⟨z, hz, e2, _⟩ := getA_some g
      exact List.mem_map.2 ⟨z, hz, e2.trans e⟩
    · obtain ⟨v, g, _⟩ := h2 y hy
      obtain ⟨z, hz, e2, _⟩ := getA_some g
      exact List.mem_map.2 ⟨z, hz, e2.trans e⟩
theorem cv_mch {a b : List S23} (hb : Rises b) {l : List S42} (hl : TV l) (h : cv a b = true) (k : mch b l = true) : mch a l = true := by
  rw [mch_iff] at k ⊢
  intro x hx
  obtain ⟨y, hy, e, w⟩ := (cv_iff hb).1 h x hx
  obtain ⟨v, g, hh⟩ := k y hy
  obtain ⟨z, hz, _, e2⟩ := getA_some g
  exact ⟨v, e ▸ g, (widB_iff x y).1 w v (e2 ▸ hl.val z hz) hh⟩
/-! ### RelTrue: the plain law -/
theorem sampK {l : List S23} (hl : l.length ≤ 5) (k : Nat) (hk : 20 ≤ k) : rel_Sample.f k l = some (l.map att) := samp_char l (by omega) k hk
end Go.Proofs.Ytfabnapjbgamaaa.MRelTrue
