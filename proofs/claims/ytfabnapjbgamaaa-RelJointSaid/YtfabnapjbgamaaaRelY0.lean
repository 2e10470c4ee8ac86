import Derived.Test.YtfabnapjbgamaaaRelX
import Derived.Test.YtfabnapjbgamaaaRelU0
namespace Go.Proofs.Ytfabnapjbgamaaa.MRelTrue
open Go.RowKit Go.Lib Go.Proofs.YtfabnapjbgamaaaW.PrintWords Go.Proofs.YtfabnapjbgamaaaW.PrintLast Go.Proofs.YtfabnapjbgamaaaW.PrintMore
set_option linter.unusedVariables false
set_option linter.unusedSimpArgs false
/-! ### plain laws: the references' answers -/
theorem okC_kind {c : S23} (h : okC c) : c.f1 = 1 ∨ c.f1 = 2 ∨ c.f1 = 3 := by
  rcases h with ⟨_, _, _, _, _, _, e⟩ | h
  · exact .inl (congrArg S23.f1 e)
  · exact .inr (tcs_kind h).2
theorem both_ref (a b : S23) (ka : a.f1 = 1 ∨ a.f1 = 2 ∨ a.f1 = 3) (kb : b.f1 = 1 ∨ b.f1 = 2 ∨ b.f1 = 3) : ∃ r ok r', mk.both a b = some (r, ok) ∧ ref_Both.f a.f0 a.f1 a.f2 a.f3 a.f4 b.f0 b.f1 b.f2 b.f3 b.f4 = some (r'.f0, r'.f1, r'.f2, r'.f3, r'.f4, ok) ∧ (ok = true → (r' : S23) = r) := by
  have h1 : pred_Holds.f b.f0 b.f1 b.f2 b.f3 b.f4 true 0 a.f4 = some (H1 b (txt40 a.f4)) := holds_f b (txt40 a.f4)
  have h2 : pred_Holds.f a.f0 a.f1 a.f2 a.f3 a.f4 true 0 b.f4 = some (H1 a (txt40 b.f4)) := holds_f a (txt40 b.f4)
  have h3 : broadsideref1_Holds.f b.f0 b.f1 b.f2 b.f3 b.f4 true 0 a.f4 = some (H1 b (txt40 a.f4)) := ref_f b (txt40 a.f4)
  have h4 : broadsideref1_Holds.f a.f0 a.f1 a.f2 a.f3 a.f4 true 0 b.f4 = some (H1 a (txt40 b.f4)) := ref_f a (txt40 b.f4)
  have h5 := beg_f a.f4 b.f4
  have h6 := beg_f b.f4 a.f4
  have p1 : b.f1 = 3 → H1 b (txt40 a.f4) = preB b.f4 a.f4 := fun e => by simp [H1, e]
  have p2 : a.f1 = 3 → H1 a (txt40 b.f4) = preB a.f4 b.f4 := fun e => by simp [H1, e]
  have fin1 : pred_Both.fin a.f0 a.f1 a.f2 a.f3 a.f4 b.f0 b.f1 b.f2 b.f3 b.f4 = if H1 b (txt40 a.f4) = true then some (a.f0, a.f1, a.f2, a.f3, a.f4, true) else pred_Both.none_ := by
    unfold pred_Both.fin
    rw [h1]
    rfl
  have fin2 : pred_Both.fin b.f0 b.f1 b.f2 b.f3 b.f4 a.f0 a.f1 a.f2 a.f3 a.f4 = if H1 a (txt40 b.f4) = true then some (b.f0, b.f1, b.f2, b.f3, b.f4, true) else pred_Both.none_ := by
    unfold pred_Both.fin
    rw [h2]
    rfl
  have done1 : ∀ (c : S23) (v : Bool), (if v = true then some (c.f0, c.f1, c.f2, c.f3, c.f4, true) else pred_Both.none_) = some (if v = true then (c.f0, c.f1, c.f2, c.f3, c.f4, true) else ((⟨#[]⟩ : ByteArray), 0, 0, 0, (⟨#[]⟩ : ByteArray), false)) := fun c v => by cases v <;> rfl
  have wrap : ∀ (c : S23) (v : Bool) (F : Option (ByteArray × Int × Int × Int × ByteArray × Bool)), F = some (if v = true then (c.f0, c.f1, c.f2, c.f3, c.f4, true) else ((⟨#[]⟩ : ByteArray), 0, 0, 0, (⟨#[]⟩ : ByteArray), false)) → pred_Both.f a.f0 a.f1 a.f2 a.f3 a.f4 b.f0 b.f1 b.f2 b.f3 b.f4 = F →
      ref_Both.f a.f0 a.f1 a.f2 a.f3 a.f4 b.f0 b.f1 b.f2 b.f3 b.f4 = some (c.f0, c.f1, c.f2, c.f3, c.f4, v) →
      ∃ r ok r', mk.both a b = some (r, ok) ∧ ref_Both.f a.f0 a.f1 a.f2 a.f3 a.f4 b.f0 b.f1 b.f2 b.f3 b.f4 = some (r'.f0, r'.f1, r'.f2, r'.f3, r'.f4, ok) ∧ (ok = true → (r' : S23) = r) := fun c v F e1 e2 e3 => by
    unfold mk.both
    rw [e2, e1, e3]
    cases v
    · exact ⟨_, _, c, rfl, rfl, fun h => by cases h⟩
    · exact ⟨_, _, c, rfl, rfl, fun _ => rfl⟩
  by_cases a1 : a.f1 = 1
  · by_cases b1 : b.f1 = 1
    · by_cases hm : mx a.f2 b.f2 ≤ mn a.f3 b.f3
      · refine wrap ⟨a.f0, a.f1, mx a.f2 b.f2, mn a.f3 b.f3, a.f4⟩ true _ rfl ?_ ?_
        · unfold pred_Both.f pred_Both.core
          rw [if_neg (by omega), if_pos a1, if_pos b1, if_neg (by omega)]
          rfl
        · unfold ref_Both.f
          rw [if_pos a1, if_pos b1, decide_eq_true hm]
      · refine wrap ⟨a.f0, a.f1, mx a.f2 b.f2, mn a.f3 b.f3, a.f4⟩ false _ rfl ?_ ?_
        · unfold pred_Both.f pred_Both.core
          rw [if_neg (by omega), if_pos a1, if_pos b1, if_pos (by omega)]
          rfl
        · unfold ref_Both.f
          rw [if_pos a1, if_pos b1, decide_eq_false hm]
    · refine wrap a false _ rfl ?_ ?_
      · unfold pred_Both.f pred_Both.core
        rw [if_neg (by omega), if_pos a1, if_neg b1]
        rfl
      · unfold ref_Both.f
        rw [if_pos a1, if_neg b1]
  · by_cases b1 : b.f1 = 1
    · refine wrap a false _ rfl ?_ ?_
      · unfold pred_Both.f pred_Both.core
        rw [if_pos (by omega), if_pos b1, if_neg a1]
        rfl
      · unfold ref_Both.f
        rw [if_neg a1, if_pos b1]
    · by_cases a2 : a.f1 = 2
      · refine wrap a (H1 b (txt40 a.f4)) _ (done1 a _) ?_ ?_
        · unfold pred_Both.f pred_Both.core
          rw [if_neg (by omega), if_neg a1, if_neg (by omega), if_pos a2, fin1]
        · unfold ref_Both.f
          rw [if_neg a1, if_neg b1, if_pos a2, h3]
          rfl
      · by_cases b2 : b.f1 = 2
        · refine wrap b (H1 a (txt40 b.f4)) _ (done1 b _) ?_ ?_
          · unfold pred_Both.f pred_Both.core
            rw [if_pos (by omega), if_neg b1, if_neg (by omega), if_pos b2, fin2]
          · unfold ref_Both.f
            rw [if_neg a1, if_neg b1, if_neg a2, if_pos b2, h4]
            rfl
        · have a3 : a.f1 = 3 := by omega
          have b3 : b.f1 = 3 := by omega
          by_cases hs : a.f4.size < b.f4.size
          · refine wrap b (H1 a (txt40 b.f4)) _ (done1 b _) ?_ ?_
            · unfold pred_Both.f pred_Both.core
              rw [if_neg (by omega), if_neg a1, if_pos a3, if_pos hs, fin2]
            · unfold ref_Both.f
              rw [if_neg a1, if_neg b1, if_neg a2, if_neg b2, if_neg (by omega), h6, p2 a3]
              rfl
          · refine wrap a (H1 b (txt40 a.f4)) _ (done1 a _) ?_ ?_
            · unfold pred_Both.f pred_Both.core
              rw [if_neg (by omega), if_neg a1, if_pos a3, if_neg hs, fin1]
            · unfold ref_Both.f
              rw [if_neg a1, if_neg b1, if_neg a2, if_neg b2, if_pos (by omega), h5, p1 b3]
              rfl
/-! names: '<' of texts -/
theorem bless_list : ∀ a b : List UInt8, Op.bytesLess a b = decide (Lib.compareBytes a b < 0)
  | [], [] => rfl
  | [], _ :: _ => rfl
  | _ :: _, [] => rfl
  | a :: x, b :: y => by
    have ih := bless_list x y
    unfold Op.bytesLess Lib.compareBytes
    by_cases h : a < b
    · rw [if_pos h, decide_eq_true h]
      rfl
    · rw [if_neg h, decide_eq_false h, Bool.false_or]
      by_cases h2 : b < a
      · rw [if_pos h2, (beq_eq_false_iff_ne.2 (fun e => by rw [e] at h2; exact h (e ▸ h2)) : (a == b) = false)]
        rfl
      · have e : a = b := UInt8.le_antisymm (UInt8.not_lt.1 h2) (UInt8.not_lt.1 h)
        rw [if_neg h2, ih, e]
        simp
theorem toList_data (s : ByteArray) : s.toList = s.data.toList := by
  exact ByteArray.toList_eq s
theorem bless (s t : ByteArray) : Op.bytesLess s.toList t.toList = decide (cmpB s t < 0) := by
  rw [toList_data, toList_data]
  exact bless_list _ _
theorem wlen_cnt {out : List S23} (hR : Rises out) (s : ByteArray) : wlen out s = mk.cnt out s := by
  obtain ⟨c1, c2⟩ := rises_cnt hR s
  have hle := mk.cnt_le out s
  generalize mk.cnt out s = k at c1 c2 hle
  have hw := wlen_le out s
  have h1 : ∀ n, n ≤ k → n ≤ wlen out s := by
    intro n
    induction n with
    | zero => intro _; exact Nat.zero_le _
    | succ n ih =>
      intro hn
      exact wlen_step out s n (ih (by omega)) (by omega) (by rw [bless]; simpa using c1 n (by omega))
  have h2 := h1 k (Nat.le_refl _)
  rcases Nat.lt_or_ge k out.length with h | h
  · exact (wlen_stop out s k h2 h (by rw [bless]; simpa using c2 k (Nat.le_refl _) h)).symm
  · omega
theorem hit_met {out : List S23} (hR : Rises out) (c : S23) : ref_Make.hit out c = mk.met out c.f0 := by
  unfold ref_Make.hit mk.met
  rw [wlen_cnt hR]
  congr 1
  rw [Bool.eq_iff_iff, beq_iff_eq, decide_eq_true_eq]
  constructor
  · intro h
    rw [toList_inj h, cmpB_self]
  · intro h
    rw [cmpB_eq h]
/-! ### ref.Make against pred.Make -/
theorem ref_both_of {x c r : S23} {ok : Bool} (hx : okC x) (hc : okC c) (h : mk.both x c = some (r, ok)) :
    ∃ r' : S23, ref_Both.f x.f0 x.f1 x.f2 x.f3 x.f4 c.f0 c.f1 c.f2 c.f3 c.f4 = some (r'.f0, r'.f1, r'.f2, r'.f3, r'.f4, ok) ∧ (ok = true → r' = r) := by
  obtain ⟨r1, ok1, r', h1, h2, h3⟩ := both_ref x c (okC_kind hx) (okC_kind hc)
  rw [h] at h1
  cases h1
  exact ⟨r', h2, h3⟩
/-- What both make of a rising row and another one: they are the same, but for how long it may get. -/
theorem ref_l : ∀ (b out : List S23), Rises out → Rises b → (∀ y ∈ b, okC y) → (∀ y ∈ b, ∀ x, cov.last out y.f0 = some x → okC x) →
    ∃ res, ref_Make.l out b = some (if fits out b = true then (res, true) else ([], false)) ∧ (fits out b = true → res.length = out.length + fresh out b) ∧
      (∀ res2, mk.l2 out b = some (some res2) → fits out b = true ∧ res2 = res)
  | [], out, hR, _, _, _ => ⟨out, rfl, fun _ => rfl, fun r2 h => ⟨rfl, by rw [mk.l2] at h; cases h; rfl⟩⟩
  | c :: t, out, hR, hB, hok, hox => by
    have hne : ∀ y ∈ t, y.f0 ≠ c.f0 := fun y hy e => by
      have := rises_head hB y hy
      rw [e, cmpB_self] at this
      omega
    obtain ⟨m1, m2⟩ := met_last hR c.f0
    rw [ref_Make.l, hit_met hR, wlen_cnt hR]
    cases hm : mk.met out c.f0
    · have hn := m2 hm
      rw [if_neg (by simp)]
      have hf1 : fits out (c :: t) = fits out t := by simp [fits, hn]
      have hf2 : fresh out (c :: t) = fresh out t + 1 := by simp [fresh, hn]
      rw [hf1, hf2]
      have hR' := rises_put hR c hm
      have hmem : ∀ x, x ∈ out.take (mk.cnt out c.f0) ++ [c] ++ out.drop (mk.cnt out c.f0) ↔ x ∈ out ∨ x = c := fun x => by
        have := List.take_append_drop (mk.cnt out c.f0) out
        constructor
        · intro h
          rcases List.mem_append.1 h with h | h
          · rcases List.mem_append.1 h with h | h
            · exact .inl (List.mem_of_mem_take h)
            · exact .inr (by simpa using h)
          · exact .inl (List.mem_of_mem_drop h)
        · intro h
          rcases h with h | h
          · rw [← this] at h
            rcases List.mem_append.1 h with h | h
            · exact List.mem_append.2 (.inl (List.mem_append.2 (.inl h)))
            · exact List.mem_append.2 (.inr h)
          · exact List.mem_append.2 (.inl (List.mem_append.2 (.inr (by simp [h]))))
      have hll : ∀ y ∈ t, cov.last (out.take (mk.cnt out c.f0) ++ [c] ++ out.drop (mk.cnt out c.f0)) y.f0 = cov.last out y.f0 := fun y hy => by
        apply Option.ext
        intro x
        rw [last_iff hR', last_iff hR, hmem]
        constructor
        · rintro ⟨h | h, e⟩
          · exact ⟨h, e⟩
          · rw [h] at e
            exact absurd e.symm (hne y hy)
        · rintro ⟨h, e⟩
          exact ⟨.inl h, e⟩
      have hlen : (out.take (mk.cnt out c.f0) ++ [c] ++ out.drop (mk.cnt out c.f0)).length = out.length + 1 := by
        have := mk.cnt_le out c.f0
        simp
        omega
      obtain ⟨res, hres, hl2, hl3⟩ := ref_l t _ hR' (rises_tail hB) (fun y hy => hok y (List.mem_cons_of_mem _ hy)) (fun y hy x hx => by
        rw [hll y hy] at hx
        exact hox y (List.mem_cons_of_mem _ hy) x hx)
      rw [fits_congr hll] at hres hl2 hl3
      rw [fresh_congr hll, hlen] at hl2
      refine ⟨res, hres, fun h => by rw [hl2 h]; omega, fun r2 h => ?_⟩
      rw [mk.l2, hm, if_neg (by simp)] at h
      split at h
      · cases h
      · exact hl3 r2 h
    · have hs := m1 hm
      obtain ⟨hk, hnm⟩ := met_true hm
      rw [if_pos rfl]
      generalize hx : out.getD (mk.cnt out c.f0) z23 = x at hs hnm
      obtain ⟨r, hr⟩ := both_ok x c (hox c List.mem_cons_self x hs) (hok c List.mem_cons_self)
      obtain ⟨r', hr', hrr⟩ := ref_both_of (hox c List.mem_cons_self x hs) (hok c List.mem_cons_self) hr
      rw [hr']
      have hf1 : fits out (c :: t) = (okB x c && fits out t) := by simp [fits, hs]
      have hf2 : fresh out (c :: t) = fresh out t := by simp [fresh, hs]
      rw [hf1, hf2]
      cases ho : okB x c
      · exact ⟨[], by simp, by simp, fun r2 h => by
          rw [mk.l2, hm, if_pos rfl, hx, hr, ho] at h
          simp at h⟩
      · rw [ho] at hr
        obtain rfl := hrr ho
        have hrn := both_f0 x c hnm r' hr
        have hR' := rises_set hR (mk.cnt out c.f0) r' hk (by rw [hx, hrn])
        have hll : ∀ y ∈ t, cov.last (out.set (mk.cnt out c.f0) r') y.f0 = cov.last out y.f0 := fun y hy => by
          apply Option.ext
          intro z
          rw [last_iff hR', last_iff hR]
          constructor
          · rintro ⟨h, e⟩
            rcases List.mem_or_eq_of_mem_set h with h | h
            · exact ⟨h, e⟩
            · rw [h, hrn, hnm] at e
              exact absurd e.symm (hne y hy)
          · rintro ⟨h, e⟩
            refine ⟨?_, e⟩
            obtain ⟨q, hq, rfl⟩ := mem_get h
            have hqk : q ≠ mk.cnt out c.f0 := fun e2 => by
              rw [e2, hx, hnm] at e
              exact absurd e.symm (hne y hy)
            have : (out.set (mk.cnt out c.f0) r').getD q z23 = out.getD q z23 := by
              rw [List.getD_eq_getElem?_getD, List.getD_eq_getElem?_getD, List.getElem?_set_ne (fun e2 => hqk e2.symm)]
            rw [← this]
            exact get_mem (by simpa using hq)
        obtain ⟨res, hres, hl2, hl3⟩ := ref_l t _ hR' (rises_tail hB) (fun y hy => hok y (List.mem_cons_of_mem _ hy)) (fun y hy z hz => by
          rw [hll y hy] at hz
          exact hox y (List.mem_cons_of_mem _ hy) z hz)
        rw [fits_congr hll] at hres hl2 hl3
        rw [fresh_congr hll, List.length_set] at hl2
        refine ⟨res, ?_, by simpa using hl2, fun r2 h => ?_⟩
        · show ref_Make.l (out.set (mk.cnt out c.f0) r') t = _
          rw [hres]
          simp
        · rw [mk.l2, hm, if_pos rfl, hx, hr] at h
          have := hl3 r2 (by simpa using h)
          simpa using this
theorem ref_app : ∀ (a out rest : List S23), Rises (out ++ a) → ref_Make.l out (a ++ rest) = ref_Make.l (out ++ a) rest
  | [], out, rest, _ => by simp
  | c :: t, out, rest, hR => by
    have hRo : Rises out := fun x y hxy hy => by
      have := hR x y hxy (by simp; omega)
      rwa [List.getD_eq_getElem?_getD, List.getD_eq_getElem?_getD, List.getElem?_append_left (by omega), List.getElem?_append_left (by omega), ← List.getD_eq_getElem?_getD, ← List.getD_eq_getElem?_getD] at this
    have hc : ∀ x ∈ out, cmpB x.f0 c.f0 < 0 := fun x hx => by
      obtain ⟨q, hq, rfl⟩ := mem_get hx
      have := hR q out.length hq (by simp)
      rw [List.getD_eq_getElem?_getD, List.getD_eq_getElem?_getD, List.getElem?_append_left hq, List.getElem?_append_right (Nat.le_refl _), ← List.getD_eq_getElem?_getD] at this
      simpa using this
    have hcnt := cnt_end hc
    rw [List.cons_append, ref_Make.l, hit_met hRo, wlen_cnt hRo]
    have hm : mk.met out c.f0 = false := by
      unfold mk.met
      rw [hcnt]
      simp
    rw [hm, if_neg (by simp), hcnt, List.take_length, List.drop_length, List.append_nil, ref_app t (out ++ [c]) rest (by simpa using hR)]
    simp
theorem ref_make {ns : List ByteArray} (hns : nsOk ns) {a b : List S23} (ha : Nice ns a) (hb : Nice ns b) :
    ∃ res, broadsideref1_Make.f (a ++ b) = some (if fits a b = true then (res, true) else ([], false)) ∧ (fits a b = true → res.length = a.length + fresh a b) ∧
      (∀ k, 10 ≤ k → pred_Make.f k (a ++ b) = some (if mt a b = true then some res else none)) := by
  obtain ⟨res, h1, h2, h3⟩ := ref_l b a ha.rises hb.rises hb.ok (fun y hy x hx => ha.ok x (last_some hx).1)
  obtain ⟨res2, g1, g2⟩ := make_char hns ha hb
  have l1 := ha.len
  have l2 := hb.len
  refine ⟨res, ?_, h2, fun k hk => ?_⟩
  · unfold broadsideref1_Make.f
    rw [if_pos (by simp; omega), ref_app a [] b (by simpa using ha.rises), List.nil_append, h1]
  · refine up_fuel (g := fun k => pred_Make.f k (a ++ b)) (fun k => pred_Make.mono _ k) ?_ k hk
    show pred_Make.f 10 (a ++ b) = _
    rw [g1]
    cases hm : mt a b
    · rfl
    · rw [if_pos hm] at g1
      unfold pred_Make.f at g1
      rw [l1_ok (a ++ b) (fun c hc => (List.mem_append.1 hc).elim (ha.ok c) (hb.ok c)) (fun c hc => (hns _ ((List.mem_append.1 hc).elim (ha.name c) (hb.name c))).1)] at g1
      simp only [Option.bind_some, if_true] at g1
      rw [l2_app a [] b (by simpa using ha.rises) (by simpa using ha.len), List.nil_append] at g1
      rw [(h3 res2 g1).2]
theorem ref_meets {ns : List ByteArray} (hns : nsOk ns) {a b : List S23} (ha : Nice ns a) (hb : Nice ns b) : broadsideref1_Meets.f a b = some (mt a b) := by
  obtain ⟨res, h1, h2, h3⟩ := ref_make hns ha hb
  have l1 := ha.len
  have l2 := hb.len
  unfold broadsideref1_Meets.f
  simp only [Option.bind_some, List.nil_append, List.length_nil, Nat.zero_add]
  rw [if_pos (by omega), if_pos (by omega), h1]
  unfold mt
  cases hf : fits a b
  · rfl
  · simp only [if_true, Option.bind_some, Bool.true_and]
    rw [h2 hf]
    congr 1
    rw [Bool.eq_iff_iff, decide_eq_true_eq, decide_eq_true_eq]
    omega
/-! ### Match and Covers -/
def rmch (p : List S23) (l : List S42) : Bool := p.all (fun c => l.any (fun x => (x.f0.toList == c.f0.toList) && H1 c x.f1))
theorem rmatch_l1 (p : List S23) (l : List S42) (hl : l.length ≤ 9) (i : Int) (c : S23) : ∀ (d j q : Nat) (v : Bool), j + d = l.length →
    broadsideref1_Match.l1 (d + 1 + q) l v p p.length i l l.length j c.f0 c.f1 c.f2 c.f3 c.f4 =
      if (v || (l.drop j).any (fun x => (x.f0.toList == c.f0.toList) && H1 c x.f1)) = true then broadsideref1_Match.l0 q l p p.length (wrap64 (i + 1)) else some false
  | 0, j, q, v, h => by
    rw [Nat.zero_add, Nat.add_comm 1 q, broadsideref1_Match.l1, if_neg (by omega), List.drop_of_length_le (by omega), List.any_nil, Bool.or_false]
  | d + 1, j, q, v, h => by
    have ih := fun v => rmatch_l1 p l hl i c d (j + 1) q v (by omega)
    rw [show d + 1 + 1 + q = (d + 1 + q) + 1 by omega, broadsideref1_Match.l1, if_pos (by omega), if_pos (by omega), if_pos (by omega), wrap_nat j (by omega), rd42, drop42 l j (by omega)]
    generalize l.getD j z42 = x
    rw [List.any_cons]
    cases v
    · rw [if_neg (by simp)]
      by_cases hc : x.f0.toList = c.f0.toList
      · rw [if_pos hc, ref_f c x.f1, Option.bind_some, ih, hc]
        simp
      · rw [if_neg hc, ih]
        simp [hc]
    · rw [if_pos rfl, ih]
      simp
theorem rmatch_l0 (p : List S23) (l : List S42) (hl : l.length ≤ 9) (hp : p.length ≤ 9) : ∀ (d i q : Nat), i + d = p.length →
    broadsideref1_Match.l0 ((l.length + 2) * d + 1 + q) l p p.length i = some (rmch (p.drop i) l)
  | 0, i, q, h => by
    rw [Nat.mul_zero, Nat.zero_add, Nat.add_comm 1 q, broadsideref1_Match.l0, if_neg (by omega), List.drop_of_length_le (by omega)]
    rfl
  | d + 1, i, q, h => by
    have ih := rmatch_l0 p l hl hp d (i + 1) q (by omega)
    rw [show (l.length + 2) * (d + 1) + 1 + q = (l.length + 1 + ((l.length + 2) * d + 1 + q)) + 1 by rw [Nat.mul_succ]; omega, broadsideref1_Match.l0, if_pos (by omega), if_pos (by omega), if_pos (by omega), rd23, drop_get p i (by omega)]
    generalize p.getD i z23 = c
    have h1 := rmatch_l1 p l hl (i : Int) c l.length 0 ((l.length + 2) * d + 1 + q) false (by omega)
    rw [Int.natCast_zero] at h1
    rw [h1, wrap_nat i (by omega), ih, List.drop_zero, Bool.false_or]
    unfold rmch
    rw [List.all_cons]
    cases l.any (fun x => (x.f0.toList == c.f0.toList) && H1 c x.f1) <;> simp
theorem rmatch_char (p : List S23) (l : List S42) (hl : l.length ≤ 5) (hp : p.length ≤ 5) : broadsideref1_Match.f 100 p l = some (rmch p l) := by
  have hm : (l.length + 2) * p.length ≤ 7 * 5 := Nat.mul_le_mul (by omega) hp
  have h := rmatch_l0 p l (by omega) (by omega) p.length 0 (99 - (l.length + 2) * p.length) (by omega)
  rw [show (l.length + 2) * p.length + 1 + (99 - (l.length + 2) * p.length) = 100 by omega] at h
  exact h
theorem getA_any {s : ByteArray} (f : S40 → Bool) : ∀ {l : List S42}, (l.map (·.f0)).Nodup → l.any (fun x => (x.f0.toList == s.toList) && f x.f1) = match getA l s with | none => false | some v => f v
  | [], _ => rfl
  | x :: t, h => by
    rw [List.map_cons, List.nodup_cons] at h
    rw [List.any_cons, getA, getA_any f h.2]
    by_cases e : x.f0.toList = s.toList
    · rw [if_pos e]
      have hn : getA t s = none := getA_none (fun y hy e2 => h.1 (by
        rw [toList_inj e, ← e2]
        exact List.mem_map_of_mem hy))
      rw [hn]
      simp [e]
    · rw [if_neg e]
      simp [e]
theorem rmch_mch {p : List S23} {l : List S42} (h : (l.map (·.f0)).Nodup) : rmch p l = mch p l := by
  unfold rmch mch
  congr 1
  funext c
  exact getA_any (H1 c) h
theorem implies_ok {a b : S23} (ha : okC a) (hb : okC b) : broadsideref1_Implies.f b.f0 b.f1 b.f2 b.f3 b.f4 a.f0 a.f1 a.f2 a.f3 a.f4 = some (widB a b) := by
  rw [← wider_ok a b ha hb]
  have h1 : pred_Holds.f a.f0 a.f1 a.f2 a.f3 a.f4 true 0 b.f4 = some (H1 a (txt40 b.f4)) := holds_f a (txt40 b.f4)
  have p2 : a.f1 = 2 → H1 a (txt40 b.f4) = (b.f4.toList == a.f4.toList) := fun e => by simp [H1, e]
  have p3 : a.f1 = 3 → H1 a (txt40 b.f4) = preB a.f4 b.f4 := fun e => by simp [H1, e]
  have p1 : a.f1 = 1 → H1 a (txt40 b.f4) = false := fun e => by simp [H1, e]
  unfold broadsideref1_Implies.f rel_wider.f value_Text.f
  simp only [Option.bind_some]
  rw [beg_f, pre_f, h1]
  rcases okC_kind ha with a1 | a1 | a1 <;> rcases okC_kind hb with b1 | b1 | b1 <;> rw [a1, b1] <;> simp [p1, p2, p3, a1]
def rcv (a b : List S23) : Bool := a.all (fun c => b.any (fun y => (y.f0.toList == c.f0.toList) && widB c y))
theorem rcov_l1 (p l : List S23) (hl : l.length ≤ 9) (kl : ∀ y ∈ l, okC y) (i : Int) (c : S23) (kc : okC c) : ∀ (d j q : Nat) (v : Bool), j + d = l.length →
    broadsideref1_Covers.l1 (d + 1 + q) l v p p.length i l l.length j c.f0 c.f1 c.f2 c.f3 c.f4 =
      if (v || (l.drop j).any (fun y => (y.f0.toList == c.f0.toList) && widB c y)) = true then broadsideref1_Covers.l0 q l p p.length (wrap64 (i + 1)) else some false
  | 0, j, q, v, h => by
    rw [Nat.zero_add, Nat.add_comm 1 q, broadsideref1_Covers.l1, if_neg (by omega), List.drop_of_length_le (by omega), List.any_nil, Bool.or_false]
  | d + 1, j, q, v, h => by
    have ih := fun v => rcov_l1 p l hl kl i c kc d (j + 1) q v (by omega)
    have kx := kl _ (get_mem (show j < l.length by omega))
    rw [show d + 1 + 1 + q = (d + 1 + q) + 1 by omega, broadsideref1_Covers.l1, if_pos (by omega), if_pos (by omega), if_pos (by omega), wrap_nat j (by omega), rd23, drop_get l j (by omega)]
    generalize l.getD j z23 = x at kx
    rw [List.any_cons]
    cases v
    · rw [if_neg (by simp)]
      by_cases hc : x.f0.toList = c.f0.toList
      · rw [if_pos hc, implies_ok kc kx, Option.bind_some, ih, hc]
        simp
      · rw [if_neg hc, ih]
        simp [hc]
    · rw [if_pos rfl, ih]
      simp
theorem rcov_l0 (p l : List S23) (hl : l.length ≤ 9) (hp : p.length ≤ 9) (kp : ∀ y ∈ p, okC y) (kl : ∀ y ∈ l, okC y) : ∀ (d i q : Nat), i + d = p.length →
    broadsideref1_Covers.l0 ((l.length + 2) * d + 1 + q) l p p.length i = some (rcv (p.drop i) l)
  | 0, i, q, h => by
    rw [Nat.mul_zero, Nat.zero_add, Nat.add_comm 1 q, broadsideref1_Covers.l0, if_neg (by omega), List.drop_of_length_le (by omega)]
    rfl
  | d + 1, i, q, h => by
    have ih := rcov_l0 p l hl hp kp kl d (i + 1) q (by omega)
    have kx := kp _ (get_mem (show i < p.length by omega))
    rw [show (l.length + 2) * (d + 1) + 1 + q = (l.length + 1 + ((l.length + 2) * d + 1 + q)) + 1 by rw [Nat.mul_succ]; omega, broadsideref1_Covers.l0, if_pos (by omega), if_pos (by omega), if_pos (by omega), rd23, drop_get p i (by omega)]
    generalize p.getD i z23 = c at kx
    have h1 := rcov_l1 p l hl kl (i : Int) c kx l.length 0 ((l.length + 2) * d + 1 + q) false (by omega)
    rw [Int.natCast_zero] at h1
    rw [h1, wrap_nat i (by omega), ih, List.drop_zero, Bool.false_or]
    unfold rcv
    rw [List.all_cons]
    cases l.any (fun y => (y.f0.toList == c.f0.toList) && widB c y) <;> simp
theorem rcov_char {ns : List ByteArray} {a b : List S23} (ha : Nice ns a) (hb : Nice ns b) : broadsideref1_Covers.f 100 a b = some (cv a b) := by
  have hm : (b.length + 2) * a.length ≤ 7 * 5 := Nat.mul_le_mul (by have := hb.len; omega) ha.len
  have h := rcov_l0 a b (by have := hb.len; omega) (by have := ha.len; omega) ha.ok hb.ok a.length 0 (99 - (b.length + 2) * a.length) (by omega)
  rw [show (b.length + 2) * a.length + 1 + (99 - (b.length + 2) * a.length) = 100 by omega] at h
  have e : rcv (a.drop 0) b = cv a b := by
    rw [List.drop_zero, Bool.eq_iff_iff, cv_iff hb.rises]
    unfold rcv
    rw [List.all_eq_true]
    constructor
    · intro h c hc
      obtain ⟨y, hy, h2⟩ := List.any_eq_true.1 (h c hc)
      rw [Bool.and_eq_true, beq_iff_eq] at h2
      exact ⟨y, hy, toList_inj h2.1, h2.2⟩
    · intro h c hc
      obtain ⟨y, hy, h2, h3⟩ := h c hc
      exact List.any_eq_true.2 ⟨y, hy, by rw [h2, h3]; simp⟩
  rw [e] at h
  exact h
/-! ### the law's tuples: names of their own -/
structure TD (i : Nat) (r : List S42) : Prop where
  len : r.length ≤ 5
  dup : (r.map (·.f0)).Nodup
  name : ∀ x ∈ r, ∃ j, j < i ∧ x.f0 = nms.getD j ⟨#[]⟩
theorem nms_inj : ∀ i j, i < 7 → j < 7 → nms.getD i ⟨#[]⟩ = nms.getD j ⟨#[]⟩ → i = j := by
  intro i j hi hj h
  rcases Nat.lt_trichotomy i j with h1 | h1 | h1
  · have := nms_rise j hj i h1
    rw [h, cmpB_self] at this
    omega
  · exact h1
  · have := nms_rise i hi j h1
    rw [h, cmpB_self] at this
    omega
theorem tud_next (k : Nat) (x3 : List S42) (a b : List Int) (i : Nat) (c : Bool) (hi : i < 7) (hI : TD i x3) (hc : c = true → (x3.length : Int) < 5) :
    ∃ x3' : List S42, TD (i + 1) x3' ∧ broadsidekeep_Tuple_Tuple.j1 (k + 1) x3 i (rdOf ByteArray.empty nms i) nms (nms.length : Int) i c a b = broadsidekeep_Tuple_Tuple.l0 k x3' nms (nms.length : Int) (wrap64 ((i : Int) + 1)) a b := by
  rw [broadsidekeep_Tuple_Tuple.j1]
  cases c
  · exact ⟨x3, { len := hI.len, dup := hI.dup, name := fun x hx => by obtain ⟨j, h1, h2⟩ := hI.name x hx; exact ⟨j, by omega, h2⟩ }, by rw [if_neg (by simp)]⟩
  · have h5 := hc rfl
    obtain ⟨t, ht⟩ := pick_some b i (by omega)
    obtain ⟨q, hq⟩ := value_vals t
    rw [if_pos rfl, ht]
    simp only [Option.bind_some]
    rw [hq]
    simp only [Option.bind_some]
    rw [if_pos (by omega)]
    have hnm : rdOf ByteArray.empty nms (i : Int) = nms.getD i ⟨#[]⟩ := by unfold rdOf; rw [Int.toNat_natCast]; rfl
    refine ⟨_, { len := by simp; omega, dup := ?_, name := fun x hx => ?_ }, rfl⟩
    · rw [List.map_append, List.nodup_append]
      refine ⟨hI.dup, by simp, fun u hu v hv e => ?_⟩
      obtain ⟨x, hx, rfl⟩ := List.mem_map.1 hu
      obtain ⟨j, hj, h2⟩ := hI.name x hx
      simp only [List.map_cons, List.map_nil, List.mem_singleton] at hv
      rw [hv, h2, hnm] at e
      have := nms_inj j i (by omega) hi e
      omega
    · rcases List.mem_append.1 hx with h | h
      · obtain ⟨j, h1, h2⟩ := hI.name x h
        exact ⟨j, by omega, h2⟩
      · simp only [List.mem_singleton] at h
        subst h
        exact ⟨i, by omega, hnm⟩
theorem tud_all (a b : List Int) : ∀ (d i k : Nat) (x3 : List S42), i + d = 7 → 2 * d + 1 ≤ k → TD i x3 → ∃ r, broadsidekeep_Tuple_Tuple.l0 k x3 nms (nms.length : Int) i a b = some r ∧ TD 7 r
  | 0, i, k, x3, h, hk, hI => by
    obtain ⟨k, rfl⟩ : ∃ q, k = q + 1 := ⟨k - 1, by omega⟩
    have h7 : (nms.length : Int) = 7 := rfl
    obtain rfl : i = 7 := by omega
    exact ⟨x3, by rw [broadsidekeep_Tuple_Tuple.l0, if_neg (by omega)], hI⟩
  | d + 1, i, k, x3, h, hk, hI => by
    obtain ⟨k, rfl⟩ : ∃ q, k = q + 1 + 1 := ⟨k - 2, by omega⟩
    obtain ⟨c, hc, e1⟩ := tup_step (k + 1) x3 a b i (by omega)
    obtain ⟨y, hy, e2⟩ := tud_next k x3 a b i c (by omega) hI hc
    rw [e1, e2, wrap_nat i (by omega)]
    exact tud_all a b d (i + 1) k y (by omega) (by omega) hy
theorem tud_nice (a b : List Int) (k : Nat) (hk : 20 ≤ k) : ∃ r, broadsidekeep_Tuple_Tuple.f k a b = some r ∧ TD 7 r :=
  tud_all a b 7 0 k [] (by omega) (by omega) { len := by simp, dup := by simp, name := fun x hx => by cases hx }
end Go.Proofs.Ytfabnapjbgamaaa.MRelTrue
