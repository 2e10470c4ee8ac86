import Derived.Test.YtfabnapjbgamaaaGreatDoorPrK
namespace Go.Proofs.YtfabnapjbgamaaaGreatDoor.MPred
open Go.RowKit Go.Lib Go.Proofs.YtfabnapjbgamaaaGreatDoorW.PrintWords Go.Proofs.YtfabnapjbgamaaaGreatDoorW.PrintLast Go.Proofs.YtfabnapjbgamaaaGreatDoorW.PrintMore
set_option linter.unusedVariables false
set_option linter.unusedSimpArgs false
/-! ### several constraints on one name -/
def vld (c : S23) : Prop := (c.f1 = 1 ∧ c.f2 ≤ c.f3 ∧ c.f4 = (⟨#[]⟩ : ByteArray)) ∨ ((c.f1 = 2 ∨ c.f1 = 3) ∧ c.f2 = 0 ∧ c.f3 = 0)
theorem okC_vld {c : S23} (h : okC c) : vld c := by
  rcases h with ⟨lo, hi, _, _, p3, _, e⟩ | h
  · have e1 := congrArg S23.f1 e; have e2 := congrArg S23.f2 e; have e3 := congrArg S23.f3 e; have e4 := congrArg S23.f4 e
    simp only [strip, rng] at e1 e2 e3 e4
    exact .inl ⟨e1, by omega, e4⟩
  · exact .inr ⟨(tcs_kind h).2, (tcs_form h).2⟩
theorem preB_iff (p s : ByteArray) : preB p s = true ↔ p.data.toList <+: s.data.toList := by
  unfold preB
  rw [Bool.and_eq_true, decide_eq_true_eq, beq_iff_eq]
  constructor
  · rintro ⟨h1, h2⟩
    have h3 := toList_inj h2
    rw [List.prefix_iff_eq_take]
    have h4 := congrArg (fun x : ByteArray => x.data.toList) h3
    simp only [ByteArray.data_extract, Array.toList_extract] at h4
    rw [← h4]
    simp [List.extract]
  · intro h
    have hl := h.length_le
    have h1 : p.size ≤ s.size := by simpa using hl
    refine ⟨h1, ?_⟩
    have : s.extract 0 p.size = p := by
      apply ba_ext
      rw [List.prefix_iff_eq_take] at h
      rw [ByteArray.data_extract, Array.toList_extract]
      conv => rhs; rw [h]
      simp [List.extract]
    rw [this]
theorem preB_trans {a b c : ByteArray} (h : preB a b = true) (k : preB b c = true) : preB a c = true := by
  rw [preB_iff] at *
  exact h.trans k
theorem preB_both {a b c : ByteArray} (hs : a.size ≤ b.size) (h : preB a c = true) (k : preB b c = true) : preB a b = true := by
  rw [preB_iff] at *
  exact List.prefix_of_prefix_length_le h k (by simpa using hs)
theorem preB_anti {a b : ByteArray} (h : preB a b = true) (k : preB b a = true) : a = b := by
  rw [preB_iff] at *
  exact ba_ext (h.eq_of_length (Nat.le_antisymm h.length_le k.length_le))
theorem preB_eq {a b : ByteArray} (h : preB a b = true) (hs : b.size ≤ a.size) : a = b := by
  rw [preB_iff] at h
  exact ba_ext (h.eq_of_length (Nat.le_antisymm h.length_le (by simpa using hs)))
def coreC (a b : S23) : Option (S23 × Bool) := (pred_Both.core a.f0 a.f1 a.f2 a.f3 a.f4 b.f0 b.f1 b.f2 b.f3 b.f4).map fun r => (⟨r.1, r.2.1, r.2.2.1, r.2.2.2.1, r.2.2.2.2.1⟩, r.2.2.2.2.2)
def Sem2 (a b : S23) (o : Option (S23 × Bool)) : Prop := (∃ r, o = some (r, true) ∧ vld r ∧ r.f0 = a.f0 ∧ ∀ x, H1 r x = (H1 a x && H1 b x)) ∨ (∃ r, o = some (r, false) ∧ ∀ x, (H1 a x && H1 b x) = false)
theorem fin_val (a b : S23) : (pred_Both.fin a.f0 a.f1 a.f2 a.f3 a.f4 b.f0 b.f1 b.f2 b.f3 b.f4).map (fun r => ((⟨r.1, r.2.1, r.2.2.1, r.2.2.2.1, r.2.2.2.2.1⟩ : S23), r.2.2.2.2.2)) = some (if H1 b (txt40 a.f4) = true then (a, true) else (z23, false)) := by
  unfold pred_Both.fin
  rw [holds_g]
  show Option.map _ (if H1 b (txt40 a.f4) = true then _ else _) = _
  by_cases h : H1 b (txt40 a.f4) = true
  · rw [if_pos h, if_pos h]; rfl
  · rw [if_neg h, if_neg h]; rfl
theorem core_sem (a b : S23) (ha : vld a) (hb : vld b) (hle : a.f1 ≤ b.f1) (hn : a.f0 = b.f0) : Sem2 a b (coreC a b) := by
  unfold coreC pred_Both.core
  rcases ha with ⟨a1, a2, a4⟩ | ⟨a1, a2, a3⟩
  · rw [if_pos a1]
    rcases hb with ⟨b1, b2, b4⟩ | ⟨b1, b2, b3⟩
    · rw [if_pos b1]
      by_cases h : mx a.f2 b.f2 > mn a.f3 b.f3
      · rw [if_pos h]
        refine .inr ⟨z23, rfl, fun x => ?_⟩
        unfold mx mn at h
        unfold H1
        rw [if_pos a1, if_pos b1]
        cases hx : x.f0
        · simp only [Bool.not_false, Bool.true_and]
          rw [← Bool.not_eq_true]
          simp only [Bool.and_eq_true, decide_eq_true_eq]
          rintro ⟨⟨h1, h2⟩, h3, h4⟩
          split at h <;> split at h <;> omega
        · rfl
      · rw [if_neg h]
        refine .inl ⟨⟨a.f0, a.f1, mx a.f2 b.f2, mn a.f3 b.f3, a.f4⟩, rfl, .inl ⟨a1, by simp only; omega, a4⟩, rfl, fun x => ?_⟩
        unfold H1
        rw [if_pos a1, if_pos b1]
        simp only [a1, if_true]
        cases hx : x.f0
        · simp only [Bool.not_false, Bool.true_and]
          rw [Bool.eq_iff_iff]
          simp only [Bool.and_eq_true, decide_eq_true_eq]
          unfold mx mn
          split <;> split <;> constructor <;> rintro h <;> (try (refine ⟨?_, ?_⟩)) <;> (try (refine ⟨?_, ?_⟩)) <;> omega
        · rfl
    · rw [if_neg (by omega)]
      refine .inr ⟨z23, rfl, fun x => ?_⟩
      unfold H1
      rw [if_pos a1, if_neg (by omega)]
      cases hx : x.f0
      · rcases b1 with b1 | b1 <;> simp [b1]
      · simp
  · rw [if_neg (by omega)]
    have hb' : (b.f1 = 2 ∨ b.f1 = 3) ∧ b.f2 = 0 ∧ b.f3 = 0 := by
      rcases hb with ⟨b1, _⟩ | hb
      · omega
      · exact hb
    have hT : ∀ {c : S23}, c.f1 = 2 → ∀ x, H1 c x = (x.f0 && (x.f2.toList == c.f4.toList)) := fun h x => by unfold H1; rw [if_neg (by omega), if_pos h]
    have hP : ∀ {c : S23}, c.f1 = 3 → ∀ x, H1 c x = (x.f0 && preB c.f4 x.f2) := fun h x => by unfold H1; rw [if_neg (by omega), if_neg (by omega), if_pos h]
    by_cases h3 : a.f1 = 3
    · rw [if_pos h3]
      have b3 : b.f1 = 3 := by omega
      by_cases hs : a.f4.size < b.f4.size
      · rw [if_pos hs, fin_val, hP h3]
        cases hp : preB a.f4 b.f4
        · refine .inr ⟨z23, by simp [hp], fun x => ?_⟩
          rw [hP h3, hP b3]
          cases h1 : preB a.f4 x.f2
          · simp
          · cases h2 : preB b.f4 x.f2
            · simp
            · rw [preB_both (by omega) h1 h2] at hp
              cases hp
        · refine .inl ⟨b, by simp [hp], .inr hb', hn.symm, fun x => ?_⟩
          rw [hP h3, hP b3]
          cases h2 : preB b.f4 x.f2
          · simp
          · rw [preB_trans hp h2]; simp
      · rw [if_neg hs, fin_val, hP b3]
        cases hp : preB b.f4 a.f4
        · refine .inr ⟨z23, by simp [hp], fun x => ?_⟩
          rw [hP h3, hP b3]
          cases h1 : preB a.f4 x.f2
          · simp
          · cases h2 : preB b.f4 x.f2
            · simp
            · rw [preB_both (by omega) h2 h1] at hp
              cases hp
        · refine .inl ⟨a, by simp [hp], .inr ⟨.inr h3, a2, a3⟩, rfl, fun x => ?_⟩
          rw [hP h3, hP b3]
          cases h2 : preB a.f4 x.f2
          · simp
          · rw [preB_trans hp h2]; simp
    · have h2 : a.f1 = 2 := by omega
      rw [if_neg h3, if_pos h2, fin_val]
      have hx : ∀ x : S40, H1 a x = true → H1 b x = H1 b (txt40 a.f4) := fun x h => by
        rw [hT h2] at h
        simp only [Bool.and_eq_true, beq_iff_eq] at h
        have e := toList_inj h.2
        rcases hb'.1 with b1 | b1
        · rw [hT b1, hT b1, h.1, e]
        · rw [hP b1, hP b1, h.1, e]
      cases hp : H1 b (txt40 a.f4)
      · refine .inr ⟨z23, by simp, fun x => ?_⟩
        cases h1 : H1 a x
        · rfl
        · rw [hx x h1, hp]; rfl
      · refine .inl ⟨a, by simp, .inr ⟨.inl h2, a2, a3⟩, rfl, fun x => ?_⟩
        cases h1 : H1 a x
        · rfl
        · rw [hx x h1, hp]; rfl
theorem both_sem (a b : S23) (ha : vld a) (hb : vld b) (hn : a.f0 = b.f0) : Sem2 a b (mk.both a b) := by
  have e : mk.both a b = if a.f1 > b.f1 then coreC b a else coreC a b := by
    unfold mk.both pred_Both.f coreC
    split <;> rfl
  rw [e]
  by_cases h : a.f1 > b.f1
  · rw [if_pos h]
    rcases core_sem b a hb ha (by omega) hn.symm with ⟨r, h1, h2, h3, h4⟩ | ⟨r, h1, h2⟩
    · exact .inl ⟨r, h1, h2, h3.trans hn.symm, fun x => by rw [h4, Bool.and_comm]⟩
    · exact .inr ⟨r, h1, fun x => by rw [Bool.and_comm]; exact h2 x⟩
  · rw [if_neg h]
    exact core_sem a b ha hb (by omega) hn
theorem vld_wit {c : S23} (h : vld c) : ∃ x, H1 c x = true := by
  rcases h with ⟨h1, h2, _⟩ | ⟨h1 | h1, _⟩
  · exact ⟨num40 c.f2, by unfold H1; rw [if_pos h1]; simp [h2]⟩
  · exact ⟨txt40 c.f4, by unfold H1; rw [if_neg (by omega), if_pos h1]; simp⟩
  · exact ⟨txt40 c.f4, by unfold H1; rw [if_neg (by omega), if_neg (by omega), if_pos h1]; simp [preB_self]⟩
theorem vld_ext {a b : S23} (ha : vld a) (hb : vld b) (hn : a.f0 = b.f0) (h : ∀ x, H1 a x = H1 b x) : a = b := by
  have hT : ∀ {c : S23}, c.f1 = 2 → ∀ x, H1 c x = (x.f0 && (x.f2.toList == c.f4.toList)) := fun h x => by unfold H1; rw [if_neg (by omega), if_pos h]
  have hP : ∀ {c : S23}, c.f1 = 3 → ∀ x, H1 c x = (x.f0 && preB c.f4 x.f2) := fun h x => by unfold H1; rw [if_neg (by omega), if_neg (by omega), if_pos h]
  have hN : ∀ {c : S23}, c.f1 = 1 → ∀ x, H1 c x = (!x.f0 && (decide (c.f2 ≤ x.f1) && decide (x.f1 ≤ c.f3))) := fun h x => by unfold H1; rw [if_pos h]
  have hTP : ∀ {a b : S23}, a.f1 = 2 → b.f1 = 3 → (∀ x, H1 a x = H1 b x) → False := fun {a b} h2 h3 h => by
    have e1 := h (txt40 b.f4)
    rw [hT h2, hP h3] at e1
    simp only [preB_self, Bool.true_and, beq_iff_eq] at e1
    have e2 := h (txt40 (b.f4 ++ (⟨#[97]⟩ : ByteArray)))
    rw [hT h2, hP h3] at e2
    simp only [preB_app, Bool.true_and, beq_iff_eq] at e2
    have e3 := congrArg ByteArray.size (toList_inj (e2.trans e1.symm))
    rw [ByteArray.size_append] at e3
    have : (⟨#[97]⟩ : ByteArray).size = 1 := rfl
    omega
  rcases ha with ⟨a1, a2, a4⟩ | ⟨a1, a2, a3⟩ <;> rcases hb with ⟨b1, b2, b4⟩ | ⟨b1, b2, b3⟩
  · have e1 := h (num40 a.f2); have e2 := h (num40 a.f3); have e3 := h (num40 b.f2); have e4 := h (num40 b.f3)
    rw [hN a1, hN b1, Bool.eq_iff_iff] at e1 e2 e3 e4
    simp only [Bool.not_false, Bool.true_and, Bool.and_eq_true, decide_eq_true_eq] at e1 e2 e3 e4
    have f2 : a.f2 = b.f2 := by omega
    have f3 : a.f3 = b.f3 := by omega
    cases a; cases b
    simp only at *
    subst hn a1 b1 a4 b4 f2 f3
    rfl
  · exfalso
    have e1 := h (num40 a.f2)
    rw [hN a1] at e1
    rcases b1 with b1 | b1
    · rw [hT b1] at e1; simp [a2] at e1
    · rw [hP b1] at e1; simp [a2] at e1
  · exfalso
    have e1 := h (num40 b.f2)
    rw [hN b1] at e1
    rcases a1 with a1 | a1
    · rw [hT a1] at e1; simp [b2] at e1
    · rw [hP a1] at e1; simp [b2] at e1
  · have f4 : a.f1 = b.f1 ∧ a.f4 = b.f4 := by
      rcases a1 with a1 | a1 <;> rcases b1 with b1 | b1
      · have e1 := h (txt40 a.f4)
        rw [hT a1, hT b1] at e1
        simp only [beq_self_eq_true, Bool.true_and] at e1
        exact ⟨by omega, toList_inj (by simpa using e1.symm)⟩
      · exact (hTP a1 b1 h).elim
      · exact (hTP b1 a1 (fun x => (h x).symm)).elim
      · have e1 := h (txt40 a.f4); have e2 := h (txt40 b.f4)
        rw [hP a1, hP b1] at e1 e2
        simp only [preB_self, Bool.true_and] at e1 e2
        exact ⟨by omega, preB_anti e2 e1.symm⟩
    cases a; cases b
    simp only at *
    obtain ⟨f1, f4⟩ := f4
    rw [hn, f1, f4, a2, a3, b2, b3]
/-- What is made of constraints on one name. -/
def Made (l : List S23) (o : Option (Except (Nat × Int) (List S23))) : Prop :=
  (∃ r, o = some (.ok [r]) ∧ vld r ∧ (∀ c ∈ l, r.f0 = c.f0) ∧ ∀ x, H1 r x = l.all (fun c => H1 c x)) ∨ (∃ i, o = some (.error (i, 5)) ∧ ∀ x, l.all (fun c => H1 c x) = false)
theorem met_one (a c : S23) (h : a.f0 = c.f0) : mk.met [a] c.f0 = true ∧ mk.cnt [a] c.f0 = 0 := by
  have h1 : mk.cnt [a] c.f0 = 0 := by simp [mk.cnt, h, cmpB_self]
  exact ⟨by unfold mk.met; rw [h1]; simp [h, cmpB_self], h1⟩
theorem fold_one : ∀ (l : List S23) (i : Nat) (acc : S23), vld acc → (∀ c ∈ l, vld c ∧ acc.f0 = c.f0) →
    (∃ r, mke.l2 i [acc] l = some (.ok [r]) ∧ vld r ∧ r.f0 = acc.f0 ∧ ∀ x, H1 r x = (H1 acc x && l.all (fun c => H1 c x))) ∨ (∃ j, mke.l2 i [acc] l = some (.error (j, 5)) ∧ ∀ x, (H1 acc x && l.all (fun c => H1 c x)) = false)
  | [], i, acc, h, _ => .inl ⟨acc, by rw [mke.l2], h, rfl, fun x => by simp⟩
  | c :: t, i, acc, h, hl => by
    obtain ⟨hc, hn⟩ := hl c List.mem_cons_self
    obtain ⟨m1, m2⟩ := met_one acc c hn
    rw [mke.l2, if_pos m1, m2]
    rw [show [acc].getD 0 z23 = acc from rfl]
    rcases both_sem acc c h hc hn with ⟨r, e1, e2, e3, e4⟩ | ⟨r, e1, e2⟩
    · rw [e1]
      simp only [Option.bind_some, if_true]
      rw [show [acc].set 0 r = [r] from rfl]
      rcases fold_one t (i + 1) r e2 (fun d hd => ⟨(hl d (List.mem_cons_of_mem _ hd)).1, e3.trans (hl d (List.mem_cons_of_mem _ hd)).2⟩) with ⟨q, f1, f2, f3, f4⟩ | ⟨j, f1, f2⟩
      · exact .inl ⟨q, f1, f2, f3.trans e3, fun x => by rw [f4, e4, List.all_cons, Bool.and_assoc]⟩
      · exact .inr ⟨j, f1, fun x => by rw [List.all_cons, ← Bool.and_assoc, ← e4]; exact f2 x⟩
    · rw [e1]
      refine .inr ⟨i, rfl, fun x => ?_⟩
      rw [List.all_cons, ← Bool.and_assoc, e2, Bool.false_and]
theorem make_one (l : List S23) (hl : l ≠ []) (s : ByteArray) (hs : tuple_Name.f 10 s = some true) (h : ∀ c ∈ l, okC c ∧ c.f0 = s) : Made l (pred_MakeE.f 30 l) := by
  have h10 := l1_ok l (fun c hc => (h c hc).1) (fun c hc => by rw [(h c hc).2]; exact hs)
  have h30 := l1_up 10 30 (by omega) l true h10
  unfold pred_MakeE.f
  rw [mke_l1 30 l 0] at h30
  obtain ⟨o, h1, h2⟩ := Option.map_eq_some_iff.1 h30
  cases o with
  | some i => cases h2
  | none =>
    rw [h1]
    show Made l (mke.l2 0 [] l)
    cases l with
    | nil => exact absurd rfl hl
    | cons c t =>
      have hm : mk.met [] c.f0 = false := by simp [mk.met]
      have hc0 : mk.cnt [] c.f0 = 0 := by simp [mk.cnt]
      rw [mke.l2, if_neg (by simp [hm]), if_neg (by simp), hc0]
      show Made (c :: t) (mke.l2 1 [c] t)
      have hcn := (h c List.mem_cons_self).2
      rcases fold_one t 1 c (okC_vld (h c List.mem_cons_self).1) (fun d hd => ⟨okC_vld (h d (List.mem_cons_of_mem _ hd)).1, hcn.trans (h d (List.mem_cons_of_mem _ hd)).2.symm⟩) with ⟨r, f1, f2, f3, f4⟩ | ⟨j, f1, f2⟩
      · exact .inl ⟨r, f1, f2, fun d hd => f3.trans (hcn.trans (h d hd).2.symm), fun x => by rw [f4, List.all_cons]⟩
      · exact .inr ⟨j, f1, fun x => by rw [List.all_cons]; exact f2 x⟩
/-- Two orders of one list are made alike. -/
theorem made_perm {l t : List S23} (hl : l ≠ []) (hp : t.Perm l) {o o' : Option (Except (Nat × Int) (List S23))} (h : Made l o) (h' : Made t o') :
    (∃ r, o = some (.ok [r]) ∧ o' = some (.ok [r]) ∧ ∀ x, H1 r x = l.all (fun c => H1 c x)) ∨ (∃ i j, o = some (.error (i, 5)) ∧ o' = some (.error (j, 5)) ∧ ∀ x, l.all (fun c => H1 c x) = false) := by
  have ha : ∀ x, t.all (fun c => H1 c x) = l.all (fun c => H1 c x) := fun x => by
    rw [Bool.eq_iff_iff, List.all_eq_true, List.all_eq_true]
    exact ⟨fun h c hc => h c (hp.mem_iff.2 hc), fun h c hc => h c (hp.mem_iff.1 hc)⟩
  obtain ⟨c0, hc0⟩ := List.exists_mem_of_ne_nil l hl
  rcases h with ⟨r, e1, e2, e3, e4⟩ | ⟨i, e1, e2⟩ <;> rcases h' with ⟨r', f1, f2, f3, f4⟩ | ⟨j, f1, f2⟩
  · have hn : r.f0 = r'.f0 := (e3 c0 hc0).trans (f3 c0 (hp.mem_iff.2 hc0)).symm
    have e : r = r' := vld_ext e2 f2 hn (fun x => by rw [e4, f4, ha])
    subst e
    exact .inl ⟨r, e1, f1, e4⟩
  · obtain ⟨x, hx⟩ := vld_wit e2
    rw [e4, ← ha, f2] at hx
    cases hx
  · obtain ⟨x, hx⟩ := vld_wit f2
    rw [f4, ha, e2] at hx
    cases hx
  · exact .inr ⟨i, j, e1, f1, e2⟩
end Go.Proofs.YtfabnapjbgamaaaGreatDoor.MPred
