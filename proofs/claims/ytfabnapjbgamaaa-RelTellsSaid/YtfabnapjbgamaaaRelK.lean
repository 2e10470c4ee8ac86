import Derived.Test.YtfabnapjbgamaaaRelJ
namespace Go.Proofs.Ytfabnapjbgamaaa.MRelTrue
open Go.RowKit Go.Lib Go.Proofs.YtfabnapjbgamaaaW.PrintWords Go.Proofs.YtfabnapjbgamaaaW.PrintLast Go.Proofs.YtfabnapjbgamaaaW.PrintMore
set_option linter.unusedVariables false
set_option linter.unusedSimpArgs false
/-! ### lists of constraints by rising names -/
theorem mem_get {l : List S23} {x : S23} (h : x ∈ l) : ∃ t, t < l.length ∧ l.getD t z23 = x := by
  obtain ⟨t, ht, rfl⟩ := List.getElem_of_mem h
  exact ⟨t, ht, by rw [List.getD_eq_getElem?_getD, List.getElem?_eq_getElem ht]; rfl⟩
theorem get_mem {l : List S23} {t : Nat} (h : t < l.length) : l.getD t z23 ∈ l := by
  rw [List.getD_eq_getElem?_getD, List.getElem?_eq_getElem h]
  exact List.getElem_mem h
theorem rises_inj {l : List S23} (hR : Rises l) {x y : S23} (hx : x ∈ l) (hy : y ∈ l) (h : x.f0 = y.f0) : x = y := by
  obtain ⟨i, hi, rfl⟩ := mem_get hx
  obtain ⟨j, hj, rfl⟩ := mem_get hy
  rcases Nat.lt_trichotomy i j with e | e | e
  · have := hR i j e hj
    rw [h, cmpB_self] at this
    omega
  · rw [e]
  · have := hR j i e hi
    rw [h, cmpB_self] at this
    omega
theorem last_some {l : List S23} {s : ByteArray} {x : S23} (h : cov.last l s = some x) : x ∈ l ∧ x.f0 = s := by
  induction l with
  | nil => cases h
  | cons c t ih =>
    rw [cov.last] at h
    split at h
    · rename_i y hy
      cases h
      exact ⟨List.mem_cons_of_mem _ (ih hy).1, (ih hy).2⟩
    · split at h
      · rename_i e
        cases h
        exact ⟨List.mem_cons_self, e⟩
      · cases h
theorem last_none {l : List S23} {s : ByteArray} (h : cov.last l s = none) : ∀ x ∈ l, x.f0 ≠ s := by
  induction l with
  | nil => intro x hx; cases hx
  | cons c t ih =>
    rw [cov.last] at h
    split at h
    · cases h
    · rename_i hn
      split at h
      · cases h
      · rename_i e
        intro x hx
        rcases List.mem_cons.1 hx with rfl | hx
        · exact e
        · exact ih hn x hx
theorem last_iff {l : List S23} (hR : Rises l) {s : ByteArray} {x : S23} : cov.last l s = some x ↔ x ∈ l ∧ x.f0 = s := by
  refine ⟨last_some, fun ⟨h1, h2⟩ => ?_⟩
  cases h : cov.last l s with
  | none => exact absurd h2 (last_none h x h1)
  | some y =>
    obtain ⟨h3, h4⟩ := last_some h
    rw [rises_inj hR h3 h1 (h4.trans h2.symm)]
theorem rises_nil : Rises [] := fun a b _ hb => by simp at hb
theorem rises_tail {c : S23} {l : List S23} (h : Rises (c :: l)) : Rises l := fun a b hab hb => by
  have := h (a + 1) (b + 1) (by omega) (by simpa using hb)
  simpa using this
theorem rises_head {c : S23} {l : List S23} (h : Rises (c :: l)) : ∀ x ∈ l, cmpB c.f0 x.f0 < 0 := fun x hx => by
  obtain ⟨t, ht, rfl⟩ := mem_get hx
  have := h 0 (t + 1) (by omega) (by simpa using ht)
  simpa using this
theorem rises_mk {l : List S23} {c : S23} (h : Rises l) (hc : ∀ x ∈ l, cmpB x.f0 c.f0 < 0) : Rises (l ++ [c]) := fun a b hab hb => by
  have hb' : b < l.length + 1 := by simpa using hb
  have e1 : ∀ t, t < l.length → (l ++ [c]).getD t z23 = l.getD t z23 := fun t ht => by
    rw [List.getD_eq_getElem?_getD, List.getD_eq_getElem?_getD, List.getElem?_append_left ht]
  have e2 : (l ++ [c]).getD l.length z23 = c := by
    rw [List.getD_eq_getElem?_getD, List.getElem?_append_right (Nat.le_refl _)]
    simp
  rw [e1 a (by omega)]
  rcases Nat.lt_or_ge b l.length with h1 | h1
  · rw [e1 b h1]
    exact h a b hab h1
  · obtain rfl : b = l.length := by omega
    rw [e2]
    exact hc _ (get_mem hab)
theorem met_last {out : List S23} (hR : Rises out) (s : ByteArray) : (mk.met out s = true → cov.last out s = some (out.getD (mk.cnt out s) z23)) ∧ (mk.met out s = false → cov.last out s = none) := by
  constructor
  · intro h
    obtain ⟨h1, h2⟩ := met_true h
    exact (last_iff hR).2 ⟨get_mem h1, h2⟩
  · intro h
    cases hl : cov.last out s with
    | none => rfl
    | some x =>
      exfalso
      obtain ⟨hx, hn⟩ := last_some hl
      obtain ⟨t, ht, rfl⟩ := mem_get hx
      obtain ⟨c1, c2⟩ := rises_cnt hR s
      have h3 : mk.cnt out s ≤ t := by
        rcases Nat.lt_or_ge t (mk.cnt out s) with h4 | h4
        · have := c1 t h4
          rw [hn, cmpB_self] at this
          omega
        · exact h4
      have h5 := c2 (mk.cnt out s) (Nat.le_refl _) (by omega)
      rcases Nat.lt_or_ge (mk.cnt out s) t with h6 | h6
      · have := hR _ _ h6 ht
        rw [hn] at this
        exact h5 this
      · have e : t = mk.cnt out s := by omega
        rw [e] at hn
        unfold mk.met at h
        rw [decide_eq_true (show mk.cnt out s < out.length by omega), hn, cmpB_self] at h
        simp at h
theorem both_f0 (a b : S23) (h : a.f0 = b.f0) (r : S23) (hb : mk.both a b = some (r, true)) : r.f0 = a.f0 := by
  obtain ⟨⟨n, x, y, z, s, ok⟩, h1, h2⟩ := Option.map_eq_some_iff.1 hb
  have e1 : ok = true := by simpa using congrArg Prod.snd h2
  have e2 : n = r.f0 := by simpa using congrArg (fun p => p.1.f0) h2
  subst e1
  rw [← e2]
  exact both_name a b h n x y z s h1
/-- New names of b over out. -/
def fresh (out b : List S23) : Nat := (b.filter (fun y => (cov.last out y.f0).isNone)).length
def fits (out b : List S23) : Bool := b.all (fun y => match cov.last out y.f0 with | some x => okB x y | none => true)
theorem fresh_congr {o1 o2 b : List S23} (h : ∀ y ∈ b, cov.last o1 y.f0 = cov.last o2 y.f0) : fresh o1 b = fresh o2 b := by
  unfold fresh
  rw [List.filter_congr (fun y hy => by rw [h y hy])]
theorem fits_congr {o1 o2 b : List S23} (h : ∀ y ∈ b, cov.last o1 y.f0 = cov.last o2 y.f0) : fits o1 b = fits o2 b := by
  unfold fits
  induction b with
  | nil => rfl
  | cons c t ih =>
    rw [List.all_cons, List.all_cons, h c List.mem_cons_self, ih (fun y hy => h y (List.mem_cons_of_mem _ hy))]
theorem l2_char : ∀ (b out : List S23), Rises out → Rises b → out.length ≤ 5 → (∀ y ∈ b, okC y) → (∀ y ∈ b, ∀ x, cov.last out y.f0 = some x → okC x) →
    ∃ res, mk.l2 out b = some (if fits out b = true ∧ out.length + fresh out b ≤ 5 then some res else none)
  | [], out, hR, _, hl, _, _ => ⟨out, by rw [mk.l2, if_pos ⟨rfl, by simpa [fresh] using hl⟩]⟩
  | c :: t, out, hR, hB, hl, hok, hox => by
    have hne : ∀ y ∈ t, y.f0 ≠ c.f0 := fun y hy e => by
      have := rises_head hB y hy
      rw [e, cmpB_self] at this
      omega
    obtain ⟨m1, m2⟩ := met_last hR c.f0
    rw [mk.l2]
    cases hm : mk.met out c.f0
    · have hn := m2 hm
      rw [if_neg (by simp)]
      have hf1 : fits out (c :: t) = fits out t := by simp [fits, hn]
      have hf2 : fresh out (c :: t) = fresh out t + 1 := by simp [fresh, hn]
      rw [hf1, hf2]
      by_cases h5 : out.length = 5
      · rw [if_pos h5]
        exact ⟨[], by rw [if_neg (fun h => by omega)]⟩
      · rw [if_neg h5]
        have hR' := rises_put hR c hm
        have hmem : ∀ x, x ∈ out.take (mk.cnt out c.f0) ++ [c] ++ out.drop (mk.cnt out c.f0) ↔ x ∈ out ∨ x = c := fun x => by
          have := List.take_append_drop (mk.cnt out c.f0) out
          constructor
          · intro h
            rcases List.mem_append.1 h with h | h
            · rcases List.mem_append.1 h with h | h
              · exact .inl (List.mem_of_mem_take h)
              · exact .inr (by simpa using h)
            · exact .inl (List.mem_of_mem_drop h)
          · intro h
            rcases h with h | h
            · rw [← this] at h
              rcases List.mem_append.1 h with h | h
              · exact List.mem_append.2 (.inl (List.mem_append.2 (.inl h)))
              · exact List.mem_append.2 (.inr h)
            · exact List.mem_append.2 (.inl (List.mem_append.2 (.inr (by simp [h]))))
        have hll : ∀ y ∈ t, cov.last (out.take (mk.cnt out c.f0) ++ [c] ++ out.drop (mk.cnt out c.f0)) y.f0 = cov.last out y.f0 := fun y hy => by
          apply Option.ext
          intro x
          rw [last_iff hR', last_iff hR, hmem]
          constructor
          · rintro ⟨h | h, e⟩
            · exact ⟨h, e⟩
            · rw [h] at e
              exact absurd e.symm (hne y hy)
          · rintro ⟨h, e⟩
            exact ⟨.inl h, e⟩
        have hlen : (out.take (mk.cnt out c.f0) ++ [c] ++ out.drop (mk.cnt out c.f0)).length = out.length + 1 := by
          have := mk.cnt_le out c.f0
          simp
          omega
        obtain ⟨res, hres⟩ := l2_char t _ hR' (rises_tail hB) (by omega) (fun y hy => hok y (List.mem_cons_of_mem _ hy)) (fun y hy x hx => by
          rw [hll y hy] at hx
          exact hox y (List.mem_cons_of_mem _ hy) x hx)
        refine ⟨res, ?_⟩
        rw [hres, fits_congr hll, fresh_congr hll, hlen]
        congr 2
        rw [eq_iff_iff]
        constructor
        · rintro ⟨h1, h2⟩
          exact ⟨h1, by omega⟩
        · rintro ⟨h1, h2⟩
          exact ⟨h1, by omega⟩
    · have hs := m1 hm
      obtain ⟨hk, hnm⟩ := met_true hm
      rw [if_pos rfl]
      generalize hx : out.getD (mk.cnt out c.f0) z23 = x at hs hnm
      obtain ⟨r, hr⟩ := both_ok x c (hox c List.mem_cons_self x hs) (hok c List.mem_cons_self)
      rw [hr]
      have hf1 : fits out (c :: t) = (okB x c && fits out t) := by simp [fits, hs]
      have hf2 : fresh out (c :: t) = fresh out t := by simp [fresh, hs]
      rw [hf1, hf2]
      cases ho : okB x c
      · exact ⟨[], by simp⟩
      · rw [ho] at hr
        have hrn := both_f0 x c hnm r hr
        have hR' := rises_set hR (mk.cnt out c.f0) r hk (by rw [hx, hrn])
        have hll : ∀ y ∈ t, cov.last (out.set (mk.cnt out c.f0) r) y.f0 = cov.last out y.f0 := fun y hy => by
          apply Option.ext
          intro z
          rw [last_iff hR', last_iff hR]
          constructor
          · rintro ⟨h, e⟩
            rcases List.mem_or_eq_of_mem_set h with h | h
            · exact ⟨h, e⟩
            · rw [h, hrn, hnm] at e
              exact absurd e.symm (hne y hy)
          · rintro ⟨h, e⟩
            refine ⟨?_, e⟩
            obtain ⟨q, hq, rfl⟩ := mem_get h
            have hqk : q ≠ mk.cnt out c.f0 := fun e2 => by
              rw [e2, hx, hnm] at e
              exact absurd e.symm (hne y hy)
            have : (out.set (mk.cnt out c.f0) r).getD q z23 = out.getD q z23 := by
              rw [List.getD_eq_getElem?_getD, List.getD_eq_getElem?_getD, List.getElem?_set_ne (fun e2 => hqk e2.symm)]
            rw [← this]
            exact get_mem (by simpa using hq)
        obtain ⟨res, hres⟩ := l2_char t _ hR' (rises_tail hB) (by simpa using hl) (fun y hy => hok y (List.mem_cons_of_mem _ hy)) (fun y hy z hz => by
          rw [hll y hy] at hz
          exact hox y (List.mem_cons_of_mem _ hy) z hz)
        refine ⟨res, ?_⟩
        show mk.l2 (out.set (mk.cnt out c.f0) r) t = _
        rw [hres, fits_congr hll, fresh_congr hll]
        simp
theorem cnt_end {out : List S23} {s : ByteArray} (h : ∀ x ∈ out, cmpB x.f0 s < 0) : mk.cnt out s = out.length := by
  unfold mk.cnt
  rw [List.countP_eq_length]
  intro x hx
  simpa using h x hx
theorem l2_app : ∀ (a out rest : List S23), Rises (out ++ a) → (out ++ a).length ≤ 5 → mk.l2 out (a ++ rest) = mk.l2 (out ++ a) rest
  | [], out, rest, _, _ => by rw [List.append_nil]; rfl
  | c :: t, out, rest, hR, hl => by
    have hlt : ∀ x ∈ out, cmpB x.f0 c.f0 < 0 := fun x hx => by
      obtain ⟨i, hi, rfl⟩ := mem_get hx
      have h := hR i out.length hi (by simp)
      rw [List.getD_eq_getElem?_getD, List.getD_eq_getElem?_getD, List.getElem?_append_left hi, List.getElem?_append_right (Nat.le_refl _)] at h
      rw [List.getD_eq_getElem?_getD]
      simpa using h
    have hc := cnt_end hlt
    have hm : mk.met out c.f0 = false := by
      unfold mk.met
      rw [hc]
      simp
    have hlen : out.length ≠ 5 := by
      simp at hl
      omega
    rw [List.cons_append, mk.l2, if_neg (by simp [hm]), if_neg hlen, hc]
    have e : out.take out.length ++ [c] ++ out.drop out.length = out ++ [c] := by simp
    rw [e, l2_app t (out ++ [c]) rest (by simpa using hR) (by simpa using hl)]
    simp
/-! ### Meets and Covers of two normal forms -/
abbrev nms : List ByteArray := [(⟨#[97]⟩ : ByteArray), (⟨#[98]⟩ : ByteArray), (⟨#[99]⟩ : ByteArray), (⟨#[100]⟩ : ByteArray), (⟨#[101]⟩ : ByteArray), (⟨#[102]⟩ : ByteArray), (⟨#[103]⟩ : ByteArray)]
/-- The normal forms that the statements speak of (names in ns). -/
structure Nice (ns : List ByteArray) (l : List S23) : Prop where
  rises : Rises l
  ok : ∀ c ∈ l, okC c
  len : l.length ≤ 5
  name : ∀ c ∈ l, c.f0 ∈ ns
def nsOk (ns : List ByteArray) : Prop := ∀ s ∈ ns, tuple_Name.f 10 s = some true ∧ s.size ≤ maxLen
theorem nms_ok : nsOk nms := by
  have h1 : (nms.all fun s => tuple_Name.f 10 s == some true) = true := by kernel_rfl
  have h2 : (nms.all fun s => decide (s.size ≤ maxLen)) = true := by kernel_rfl
  exact fun s hs => ⟨by simpa using List.all_eq_true.1 h1 s hs, by simpa using List.all_eq_true.1 h2 s hs⟩
theorem right_ok {c : S23} (h : okC c) (hn : tuple_Name.f 10 c.f0 = some true) : pred_RightOne.f 10 c.f0 c.f1 c.f2 c.f3 c.f4 = some true := by
  have ha : tuple_Name.f 10 aa = some true := by kernel_rfl
  have hs : pred_RightOne.f 10 (strip c).f0 (strip c).f1 (strip c).f2 (strip c).f3 (strip c).f4 = some true := by
    rcases h with ⟨lo, hi, p1, p2, p3, p4, e⟩ | h
    · rw [e]; exact right_rng _ _ p3
    · exact right_tcs h
  unfold pred_RightOne.f at hs ⊢
  rw [hn]
  rw [show tuple_Name.f 10 (strip c).f0 = some true from ha] at hs
  exact hs
theorem l1_ok : ∀ l : List S23, (∀ c ∈ l, okC c) → (∀ c ∈ l, tuple_Name.f 10 c.f0 = some true) → mk.l1 10 l = some true
  | [], _, _ => rfl
  | c :: t, h, hn => by
    rw [mk.l1, right_ok (h c List.mem_cons_self) (hn c List.mem_cons_self)]
    simp only [Option.bind_some, if_true]
    exact l1_ok t (fun x hx => h x (List.mem_cons_of_mem _ hx)) (fun x hx => hn x (List.mem_cons_of_mem _ hx))
theorem l2_len : ∀ (b out res : List S23), mk.l2 out b = some (some res) → out.length ≤ 5 → res.length ≤ 5
  | [], out, res, h, hl => by
    rw [mk.l2] at h
    cases h
    exact hl
  | c :: t, out, res, h, hl => by
    rw [mk.l2] at h
    split at h
    · obtain ⟨r, _, h2⟩ := Option.bind_eq_some_iff.1 h
      split at h2
      · exact l2_len t _ res h2 (by simpa using hl)
      · cases h2
    · split at h
      · cases h
      · refine l2_len t _ res h ?_
        have := mk.cnt_le out c.f0
        simp
        omega
theorem sample_step (k : Nat) (x3 : List S42) (l : List S23) (i : Nat) (hi : i < l.length) (hx : x3.length ≤ 1000) : ∃ y, rel_Sample.l0 (k + 1) x3 l l.length i = rel_Sample.l0 k (x3 ++ [y]) l l.length (wrap64 ((i : Int) + 1)) := by
  rw [rel_Sample.l0, if_pos (by omega), if_pos (by omega), if_pos (by omega)]
  unfold value_Text.f value_Number.f
  simp only [Option.bind_some]
  by_cases h : (rd_T23 l (i : Int)).f1 = 1
  · rw [if_pos h, if_pos (by omega)]
    exact ⟨_, rfl⟩
  · rw [if_neg h, if_pos (by omega)]
    exact ⟨_, rfl⟩
theorem sample_tot : ∀ (d i k : Nat) (x3 : List S42) (l : List S23), i + d = l.length → d + 1 ≤ k → l.length ≤ 100 → x3.length ≤ i → ∃ s, rel_Sample.l0 k x3 l l.length i = some s
  | 0, i, k, x3, l, h, hk, hl, hx => by
    obtain ⟨k, rfl⟩ : ∃ q, k = q + 1 := ⟨k - 1, by omega⟩
    exact ⟨x3, by rw [rel_Sample.l0, if_neg (by omega)]⟩
  | d + 1, i, k, x3, l, h, hk, hl, hx => by
    obtain ⟨k, rfl⟩ : ∃ q, k = q + 1 := ⟨k - 1, by omega⟩
    obtain ⟨y, hy⟩ := sample_step k x3 l i (by omega) (by omega)
    rw [hy, show wrap64 ((i : Int) + 1) = ((i + 1 : Nat) : Int) by unfold wrap64; omega]
    exact sample_tot d (i + 1) k (x3 ++ [y]) l (by omega) (by omega) hl (by simp; omega)
theorem sample_all (l : List S23) (h : l.length ≤ 9) : ∃ s, rel_Sample.f 10 l = some s := sample_tot l.length 0 10 [] l (by omega) (by omega) (by omega) (Nat.le_refl _)
def mt (a b : List S23) : Bool := fits a b && decide (a.length + fresh a b ≤ 5)
theorem make_char {ns : List ByteArray} (hns : nsOk ns) {a b : List S23} (ha : Nice ns a) (hb : Nice ns b) : ∃ res, pred_Make.f 10 (a ++ b) = some (if mt a b = true then some res else none) ∧ (mt a b = true → res.length ≤ 5) := by
  obtain ⟨res, hres⟩ := l2_char b a ha.rises hb.rises ha.len hb.ok (fun y hy x hx => ha.ok x (last_some hx).1)
  have e : pred_Make.f 10 (a ++ b) = some (if mt a b = true then some res else none) := by
    unfold pred_Make.f
    rw [l1_ok (a ++ b) (fun c hc => (List.mem_append.1 hc).elim (ha.ok c) (hb.ok c)) (fun c hc => (hns _ ((List.mem_append.1 hc).elim (ha.name c) (hb.name c))).1)]
    simp only [Option.bind_some, if_true]
    rw [l2_app a [] b (by simpa using ha.rises) (by simpa using ha.len), List.nil_append, hres]
    unfold mt
    simp
  refine ⟨res, e, fun h => ?_⟩
  rw [if_pos (by unfold mt at h; simpa using h)] at hres
  exact l2_len b a res hres ha.len
theorem meets_char {ns : List ByteArray} (hns : nsOk ns) {a b : List S23} (ha : Nice ns a) (hb : Nice ns b) : rel_Meets.f 10 a b = some (mt a b) := by
  obtain ⟨res, h1, h2⟩ := make_char hns ha hb
  have l1 := ha.len
  have l2 := hb.len
  unfold rel_Meets.f rel_Joint.f
  rw [if_pos (by omega), h1]
  cases hm : mt a b
  · rfl
  · obtain ⟨s, hs⟩ := sample_all res (by have := h2 hm; omega)
    simp [hs]
def cv (a b : List S23) : Bool := a.all (fun c => match cov.last b c.f0 with | none => false | some x => widB c x)
theorem covers_char {ns : List ByteArray} (hns : nsOk ns) {a b : List S23} (ha : Nice ns a) (hb : Nice ns b) : rel_Covers.f a b = some (cv a b) := by
  have hk : ∀ l : List S23, Nice ns l → cov.okB l = true := fun l hl => by
    unfold cov.okB
    rw [Bool.and_eq_true, decide_eq_true_eq, List.all_eq_true]
    exact ⟨by have := hl.len; omega, fun c hc => by simpa using (hns _ (hl.name c hc)).2⟩
  have hg : ∀ l : List S23, (∀ c ∈ l, okC c) → cov.go b l = some (cv l b) := by
    intro l
    induction l with
    | nil => intro _; rfl
    | cons c t ih =>
      intro h
      have ih := ih (fun x hx => h x (List.mem_cons_of_mem _ hx))
      rw [cov.go]
      cases hl : cov.last b c.f0 with
      | none => simp [cv, hl]
      | some x =>
        simp only
        rw [wider_ok c x (h c List.mem_cons_self) (hb.ok x (last_some hl).1)]
        have e : cv (c :: t) b = (widB c x && cv t b) := by simp [cv, hl]
        rw [e]
        cases widB c x
        · rfl
        · simpa using ih
  unfold rel_Covers.f
  rw [hk a ha, hk b hb]
  exact hg a ha.ok
theorem cv_iff {a b : List S23} (hb : Rises b) : cv a b = true ↔ ∀ c ∈ a, ∃ x ∈ b, x.f0 = c.f0 ∧ widB c x = true := by
  unfold cv
  rw [List.all_eq_true]
  constructor
  · intro h c hc
    have := h c hc
    split at this
    · cases this
    · rename_i x hx
      obtain ⟨h1, h2⟩ := last_some hx
      exact ⟨x, h1, h2, this⟩
  · intro h c hc
    obtain ⟨x, h1, h2, h3⟩ := h c hc
    rw [(last_iff hb).2 ⟨h1, h2⟩]
    exact h3
theorem fits_iff {a b : List S23} (ha : Rises a) : fits a b = true ↔ ∀ x ∈ a, ∀ y ∈ b, x.f0 = y.f0 → okB x y = true := by
  unfold fits
  rw [List.all_eq_true]
  constructor
  · intro h x hx y hy e
    have := h y hy
    rw [(last_iff ha).2 ⟨hx, e⟩] at this
    exact this
  · intro h y hy
    split
    · rename_i x hx
      obtain ⟨h1, h2⟩ := last_some hx
      exact h x h1 y hy h2
    · rfl
/-! ### how many names there are -/
theorem nodup_le {α : Type} [DecidableEq α] : ∀ (l1 l2 : List α), l1.Nodup → (∀ x ∈ l1, x ∈ l2) → l1.length ≤ l2.length
  | [], _, _, _ => Nat.zero_le _
  | x :: t, l2, h, hs => by
    obtain ⟨h1, h2⟩ := List.nodup_cons.1 h
    have := nodup_le t (l2.erase x) h2 (fun y hy => (List.mem_erase_of_ne (fun e => h1 (by rw [← e]; exact hy))).2 (hs y (List.mem_cons_of_mem _ hy)))
    rw [List.length_erase_of_mem (hs x List.mem_cons_self)] at this
    have hp := List.length_pos_of_mem (hs x List.mem_cons_self)
    simp
    omega
def uni (a b : List S23) : List ByteArray := a.map (·.f0) ++ (b.filter (fun y => (cov.last a y.f0).isNone)).map (·.f0)
theorem uni_len (a b : List S23) : (uni a b).length = a.length + fresh a b := by simp [uni, fresh]
theorem rises_nodup : ∀ {l : List S23}, Rises l → (l.map (·.f0)).Nodup
  | [], _ => by simp
  | c :: t, h => by
    rw [List.map_cons, List.nodup_cons]
    refine ⟨fun hm => ?_, rises_nodup (rises_tail h)⟩
    obtain ⟨x, hx, e⟩ := List.mem_map.1 hm
    have := rises_head h x hx
    rw [e, cmpB_self] at this
    omega
theorem uni_mem {a b : List S23} (s : ByteArray) : s ∈ uni a b ↔ (∃ x ∈ a, x.f0 = s) ∨ ∃ y ∈ b, y.f0 = s := by
  unfold uni
  rw [List.mem_append, List.mem_map, List.mem_map]
  constructor
  · rintro (⟨x, h, e⟩ | ⟨y, h, e⟩)
    · exact .inl ⟨x, h, e⟩
    · exact .inr ⟨y, (List.mem_filter.1 h).1, e⟩
  · rintro (⟨x, h, e⟩ | ⟨y, h, e⟩)
    · exact .inl ⟨x, h, e⟩
    · cases hl : cov.last a y.f0 with
      | none => exact .inr ⟨y, List.mem_filter.2 ⟨h, by simp [hl]⟩, e⟩
      | some x =>
        obtain ⟨h1, h2⟩ := last_some hl
        exact .inl ⟨x, h1, h2.trans e⟩
theorem uni_nodup {a b : List S23} (ha : Rises a) (hb : Rises b) : (uni a b).Nodup := by
  unfold uni
  rw [List.nodup_append]
  refine ⟨rises_nodup ha, (rises_nodup hb).sublist (List.filter_sublist.map _), fun s h1 t h2 e => ?_⟩
  subst e
  obtain ⟨x, hx, e1⟩ := List.mem_map.1 h1
  obtain ⟨y, hy, e2⟩ := List.mem_map.1 h2
  obtain ⟨hy1, hy2⟩ := List.mem_filter.1 hy
  have : cov.last a y.f0 = none := by simpa using hy2
  exact last_none this x hx (e1.trans e2.symm)
theorem uni_le {a b c d : List S23} (ha : Rises a) (hb : Rises b) (h : ∀ s, ((∃ x ∈ a, x.f0 = s) ∨ ∃ y ∈ b, y.f0 = s) → (∃ x ∈ c, x.f0 = s) ∨ ∃ y ∈ d, y.f0 = s) : a.length + fresh a b ≤ c.length + fresh c d := by
  rw [← uni_len, ← uni_len]
  exact nodup_le _ _ (uni_nodup ha hb) (fun s hs => (uni_mem s).2 (h s ((uni_mem s).1 hs)))
/-! ### the laws -/
theorem mt_iff {a b : List S23} (ha : Rises a) : mt a b = true ↔ (∀ x ∈ a, ∀ y ∈ b, x.f0 = y.f0 → okB x y = true) ∧ a.length + fresh a b ≤ 5 := by
  unfold mt
  rw [Bool.and_eq_true, fits_iff ha, decide_eq_true_eq]
theorem mt_comm {a b : List S23} (ha : Rises a) (hb : Rises b) : mt a b = mt b a := by
  rw [Bool.eq_iff_iff, mt_iff ha, mt_iff hb]
  have e1 : a.length + fresh a b ≤ b.length + fresh b a := uni_le ha hb (fun s h => h.symm)
  have e2 : b.length + fresh b a ≤ a.length + fresh a b := uni_le hb ha (fun s h => h.symm)
  constructor
  · rintro ⟨h1, h2⟩
    exact ⟨fun x hx y hy e => by rw [okB_comm]; exact h1 y hy x hx e.symm, by omega⟩
  · rintro ⟨h1, h2⟩
    exact ⟨fun x hx y hy e => by rw [okB_comm]; exact h1 y hy x hx e.symm, by omega⟩
theorem mt_self {a : List S23} (ha : Rises a) (hk : ∀ c ∈ a, okC c) (hl : a.length ≤ 5) : mt a a = true := by
  rw [mt_iff ha]
  refine ⟨fun x hx y hy e => ?_, ?_⟩
  · rw [rises_inj ha hx hy e]
    exact okB_self (hk y hy)
  · have : fresh a a = 0 := by
      unfold fresh
      rw [List.length_eq_zero_iff, List.filter_eq_nil_iff]
      intro y hy
      rw [(last_iff ha).2 ⟨hy, rfl⟩]
      simp
    omega
theorem mt_nil {a : List S23} (hl : a.length ≤ 5) : mt [] a = true := by
  rw [mt_iff rises_nil]
  refine ⟨fun x hx => (by cases hx), ?_⟩
  have : fresh [] a ≤ a.length := List.length_filter_le _ _
  simp
  omega
theorem cv_refl {a : List S23} (ha : Rises a) : cv a a = true := (cv_iff ha).2 (fun c hc => ⟨c, hc, rfl, widB_refl c⟩)
theorem cv_nil (a : List S23) : cv [] a = true := rfl
theorem cv_trans {a b c : List S23} (hb : Rises b) (hc : Rises c) (h : cv a b = true) (k : cv b c = true) : cv a c = true := by
  rw [cv_iff hc]
  intro x hx
  obtain ⟨y, hy, e1, w1⟩ := (cv_iff hb).1 h x hx
  obtain ⟨z, hz, e2, w2⟩ := (cv_iff hc).1 k y hy
  exact ⟨z, hz, e2.trans e1, widB_trans w1 w2⟩
theorem cv_mt {a b c : List S23} (ha : Rises a) (hb : Rises b) (hc : Rises c) (h : cv a b = true) (k : mt b c = true) : mt a c = true := by
  obtain ⟨k1, k2⟩ := (mt_iff hb).1 k
  rw [mt_iff ha]
  refine ⟨fun x hx y hy e => ?_, Nat.le_trans (uni_le ha hc (fun s hs => ?_)) k2⟩
  · obtain ⟨z, hz, e1, w1⟩ := (cv_iff hb).1 h x hx
    exact okB_wid w1 (k1 z hz y hy (e1.trans e))
  · rcases hs with ⟨x, hx, e⟩ | hs
    · obtain ⟨z, hz, e1, w1⟩ := (cv_iff hb).1 h x hx
      exact .inl ⟨z, hz, e1.trans e⟩
    · exact .inr hs
theorem rises_ext : ∀ {a b : List S23}, Rises a → Rises b → (∀ x, x ∈ a ↔ x ∈ b) → a = b
  | [], [], _, _, _ => rfl
  | [], y :: t, _, _, h => by have := (h y).2 List.mem_cons_self; cases this
  | x :: s, [], _, _, h => by have := (h x).1 List.mem_cons_self; cases this
  | x :: s, y :: t, ha, hb, h => by
    have e : x = y := by
      rcases List.mem_cons.1 ((h x).1 List.mem_cons_self) with e | h1
      · exact e
      · rcases List.mem_cons.1 ((h y).2 List.mem_cons_self) with e | h2
        · exact e.symm
        · exact absurd (cmpB_trans (rises_head ha y h2) (rises_head hb x h1)) (by rw [cmpB_self]; omega)
    subst e
    have hx1 : x ∉ s := fun hx => by have := rises_head ha x hx; rw [cmpB_self] at this; omega
    have hx2 : x ∉ t := fun hx => by have := rises_head hb x hx; rw [cmpB_self] at this; omega
    rw [rises_ext (rises_tail ha) (rises_tail hb) (fun z => ?_)]
    constructor
    · intro hz
      rcases List.mem_cons.1 ((h z).1 (List.mem_cons_of_mem _ hz)) with e | h1
      · exact absurd (e ▸ hz) hx1
      · exact h1
    · intro hz
      rcases List.mem_cons.1 ((h z).2 (List.mem_cons_of_mem _ hz)) with e | h1
      · exact absurd (e ▸ hz) hx2
      · exact h1
theorem cv_anti {a b : List S23} (ha : Rises a) (hb : Rises b) (ka : ∀ c ∈ a, okC c) (kb : ∀ c ∈ b, okC c) (h : cv a b = true) (k : cv b a = true) : a = b := by
  have key : ∀ {a b : List S23}, Rises a → Rises b → (∀ c ∈ a, okC c) → (∀ c ∈ b, okC c) → cv a b = true → cv b a = true → ∀ x, x ∈ a → x ∈ b := fun {a b} ha hb ka kb h k x hx => by
    obtain ⟨y, hy, e1, w1⟩ := (cv_iff hb).1 h x hx
    obtain ⟨z, hz, e2, w2⟩ := (cv_iff ha).1 k y hy
    have e : z = x := rises_inj ha hz hx (e2.trans e1)
    subst e
    rw [okC_anti (ka z hx) (kb y hy) e1.symm w1 w2]
    exact hy
  exact rises_ext ha hb (fun x => ⟨key ha hb ka kb h k x, key hb ha kb ka k h x⟩)
end Go.Proofs.Ytfabnapjbgamaaa.MRelTrue
