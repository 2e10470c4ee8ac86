import Derived.Test.YtfabnapjbgamaaaGreatDoorPrK
import Derived.Test.YtfabnapjbgamaaaGreatDoorMPredx4
import Derived.Test.YtfabnapjbgamaaaGreatDoorMPredx5
import Derived.Test.YtfabnapjbgamaaaGreatDoorMPredx6
namespace Go.Proofs.YtfabnapjbgamaaaGreatDoor.MPred
open Go.RowKit Go.Lib Go.Proofs.YtfabnapjbgamaaaGreatDoorW.PrintWords Go.Proofs.YtfabnapjbgamaaaGreatDoorW.PrintLast Go.Proofs.YtfabnapjbgamaaaGreatDoorW.PrintMore
set_option linter.unusedVariables false
set_option linter.unusedSimpArgs false
theorem split_sep {s : UInt8} : ∀ {a b x y : List UInt8}, s ∉ a → s ∉ b → a ++ s :: x = b ++ s :: y → a = b ∧ x = y
  | [], [], _, _, _, _, h => by simpa using h
  | [], c :: b, _, _, _, hb, h => by
    simp at h hb; exact absurd h.1 hb.1
  | c :: a, [], _, _, ha, _, h => by
    simp at h ha; exact absurd h.1.symm ha.1
  | c :: a, d :: b, x, y, ha, hb, h => by
    simp at h ha hb
    obtain ⟨e1, e2⟩ := split_sep (s := s) ha.2 hb.2 h.2
    exact ⟨by rw [h.1, e1], e2⟩
theorem join_inj {s : UInt8} : ∀ (xs ys : List (List UInt8)), (∀ x ∈ xs, s ∉ x ∧ x ≠ []) → (∀ x ∈ ys, s ∉ x ∧ x ≠ []) → Lib.join xs [s] = Lib.join ys [s] → xs = ys
  | [], [], _, _, _ => rfl
  | [], [y], _, hy, h => by
    rw [Lib.join_nil, Lib.join_one] at h; exact absurd h.symm (hy y (by simp)).2
  | [], y :: z :: r, _, hy, h => by
    rw [Lib.join_nil, Lib.join_cons] at h; exact absurd (List.append_eq_nil_iff.1 h.symm).1 (hy y (by simp)).2
  | [x], [], hx, _, h => by
    rw [Lib.join_nil, Lib.join_one] at h; exact absurd h (hx x (by simp)).2
  | x :: z :: r, [], hx, _, h => by
    rw [Lib.join_nil, Lib.join_cons] at h; exact absurd (List.append_eq_nil_iff.1 h).1 (hx x (by simp)).2
  | [x], [y], _, _, h => by rw [Lib.join_one, Lib.join_one] at h; rw [h]
  | [x], y :: z :: r, hx, _, h => by
    rw [Lib.join_one, Lib.join_cons] at h
    have := (hx x (by simp)).1
    rw [h] at this; simp [Lib.joinTail] at this
  | x :: z :: r, [y], _, hy, h => by
    rw [Lib.join_one, Lib.join_cons] at h
    have := (hy y (by simp)).1
    rw [← h] at this; simp [Lib.joinTail] at this
  | x :: x1 :: r, y :: y1 :: q, hx, hy, h => by
    have e : ∀ (a b : List UInt8) (t : List (List UInt8)), Lib.join (a :: b :: t) [s] = a ++ s :: Lib.join (b :: t) [s] := fun a b t => by
      rw [Lib.join_cons, Lib.join_cons]; simp [Lib.joinTail]
    rw [e, e] at h
    obtain ⟨h1, h2⟩ := split_sep (hx x (by simp)).1 (hy y (by simp)).1 h
    rw [h1, join_inj (x1 :: r) (y1 :: q) (fun u hu => hx u (by simp [hu])) (fun u hu => hy u (by simp [hu])) h2]

/-! ### Same, Right, Say of normal forms -/
theorem list_eq_iff (a b : List S23) : a = b ↔ a.length = b.length ∧ ∀ t, t < a.length → a.getD t z23 = b.getD t z23 := by
  constructor
  · rintro rfl
    exact ⟨rfl, fun _ _ => rfl⟩
  · rintro ⟨h1, h2⟩
    apply List.ext_getElem h1
    intro i hi hi2
    have := h2 i hi
    rw [List.getD_eq_getElem?_getD, List.getD_eq_getElem?_getD, List.getElem?_eq_getElem hi, List.getElem?_eq_getElem hi2] at this
    simpa using this
theorem same_cond (x y : S23) : ((!(x.f0.toList == y.f0.toList) || (!(x.f1 == y.f1) || (!(x.f2 == y.f2) || (!(x.f3 == y.f3) || (!(x.f4.toList == y.f4.toList)))))) = true) ↔ x ≠ y := by
  constructor
  · rintro h rfl
    simp at h
  · intro h
    apply Classical.byContradiction
    intro hn
    simp at hn
    obtain ⟨e0, e1, e2, e3, e4⟩ := hn
    apply h
    cases x; cases y
    simp only at e0 e1 e2 e3 e4
    rw [toList_inj e0, e1, e2, e3, toList_inj e4]
theorem same19 (a b : List S23) (hab : a.length = b.length) (hl : a.length ≤ 100) : ∀ (d i k : Nat), i + d = a.length → d + 1 ≤ k →
    ∃ r, api_Constraint_19.l0 k a b i = some r ∧ (r = true ↔ ∀ t, i ≤ t → t < a.length → a.getD t z23 = b.getD t z23)
  | 0, i, k, h, hk => by
    obtain ⟨k, rfl⟩ : ∃ q, k = q + 1 := ⟨k - 1, by omega⟩
    exact ⟨true, by rw [api_Constraint_19.l0, if_neg (by omega)], ⟨fun _ t h1 h2 => by omega, fun _ => rfl⟩⟩
  | d + 1, i, k, h, hk => by
    obtain ⟨k, rfl⟩ : ∃ q, k = q + 1 := ⟨k - 1, by omega⟩
    obtain ⟨r, ih, hr⟩ := same19 a b hab hl d (i + 1) k (by omega) (by omega)
    have ea : rd_T23 a (i : Int) = a.getD i z23 := by unfold rd_T23; rw [Int.toNat_natCast]
    have eb : rd_T23 b (i : Int) = b.getD i z23 := by unfold rd_T23; rw [Int.toNat_natCast]
    rw [api_Constraint_19.l0, if_pos (by omega), if_pos (by omega), if_pos (by omega), ea, eb]
    by_cases hc : a.getD i z23 = b.getD i z23
    · rw [if_neg (fun h2 => (same_cond _ _).1 h2 hc), show wrap64 ((i : Int) + 1) = ((i + 1 : Nat) : Int) by unfold wrap64; omega]
      refine ⟨r, ih, hr.trans ⟨fun h2 t h3 h4 => ?_, fun h2 t h3 h4 => h2 t (by omega) h4⟩⟩
      rcases Nat.lt_or_ge i t with h5 | h5
      · exact h2 t h5 h4
      · obtain rfl : t = i := by omega
        exact hc
    · rw [if_pos ((same_cond _ _).2 hc)]
      exact ⟨false, rfl, ⟨fun h2 => (by cases h2), fun h2 => absurd (h2 i (Nat.le_refl _) (by omega)) hc⟩⟩
theorem same_char (a b : List S23) (ha : a.length ≤ 20) : ∃ r, api_Constraint_19.f 30 a b = some r ∧ (r = true ↔ a = b) := by
  unfold api_Constraint_19.f
  by_cases h : a.length = b.length
  · rw [if_pos (by omega)]
    obtain ⟨r, h1, h2⟩ := same19 a b h (by omega) a.length 0 30 (by omega) (by omega)
    refine ⟨r, h1, h2.trans ?_⟩
    rw [list_eq_iff]
    exact ⟨fun h3 => ⟨h, fun t ht => h3 t (Nat.zero_le _) ht⟩, fun h3 t _ ht => h3.2 t ht⟩
  · rw [if_neg (by omega)]
    exact ⟨false, rfl, ⟨fun h2 => (by cases h2), fun h2 => absurd (by rw [h2]) h⟩⟩
theorem same43 (a b : List S23) (hab : a.length = b.length) (hl : a.length ≤ 100) : ∀ (d i k : Nat), i + d = a.length → d + 1 ≤ k →
    ∃ r, api_Constraint_43.l0 k a b (a.length : Int) i = some r ∧ (r = true ↔ ∀ t, i ≤ t → t < a.length → a.getD t z23 = b.getD t z23)
  | 0, i, k, h, hk => by
    obtain ⟨k, rfl⟩ : ∃ q, k = q + 1 := ⟨k - 1, by omega⟩
    exact ⟨true, by rw [api_Constraint_43.l0, if_neg (by omega)], ⟨fun _ t h1 h2 => by omega, fun _ => rfl⟩⟩
  | d + 1, i, k, h, hk => by
    obtain ⟨k, rfl⟩ : ∃ q, k = q + 1 := ⟨k - 1, by omega⟩
    obtain ⟨r, ih, hr⟩ := same43 a b hab hl d (i + 1) k (by omega) (by omega)
    have ea : rd_T23 a (i : Int) = a.getD i z23 := by unfold rd_T23; rw [Int.toNat_natCast]
    have eb : rd_T23 b (i : Int) = b.getD i z23 := by unfold rd_T23; rw [Int.toNat_natCast]
    rw [api_Constraint_43.l0, if_pos (by omega), if_pos (by omega), if_pos (by omega), if_pos (by omega), ea, eb]
    by_cases hc : a.getD i z23 = b.getD i z23
    · rw [if_neg (fun h2 => (same_cond _ _).1 h2 hc), show wrap64 ((i : Int) + 1) = ((i + 1 : Nat) : Int) by unfold wrap64; omega]
      refine ⟨r, ih, hr.trans ⟨fun h2 t h3 h4 => ?_, fun h2 t h3 h4 => h2 t (by omega) h4⟩⟩
      rcases Nat.lt_or_ge i t with h5 | h5
      · exact h2 t h5 h4
      · obtain rfl : t = i := by omega
        exact hc
    · rw [if_pos ((same_cond _ _).2 hc)]
      exact ⟨false, rfl, ⟨fun h2 => (by cases h2), fun h2 => absurd (h2 i (Nat.le_refl _) (by omega)) hc⟩⟩
theorem psame_char (a b : List S23) (ha : a.length ≤ 20) : ∃ r, pred_Same.f 30 a b = some r ∧ (r = true ↔ a = b) := by
  unfold pred_Same.f api_Constraint_43.f
  by_cases h : a.length = b.length
  · rw [if_pos (by omega)]
    obtain ⟨r, h1, h2⟩ := same43 a b h (by omega) a.length 0 30 (by omega) (by omega)
    rw [show ((0 : Nat) : Int) = 0 from rfl] at h1
    refine ⟨r, by rw [h1]; rfl, h2.trans ?_⟩
    rw [list_eq_iff]
    exact ⟨fun h3 => ⟨h, fun t ht => h3 t (Nat.zero_le _) ht⟩, fun h3 t _ ht => h3.2 t ht⟩
  · rw [if_neg (by omega)]
    exact ⟨false, rfl, ⟨fun h2 => (by cases h2), fun h2 => absurd (by rw [h2]) h⟩⟩
theorem right_l0 {p : List S23} (hp : Nice nms p) : ∀ (d i k : Nat), i + d = p.length → d + 11 ≤ k → pred_Right.l0 k p p (p.length : Int) i = some true
  | 0, i, k, h, hk => by
    obtain ⟨k, rfl⟩ : ∃ q, k = q + 1 := ⟨k - 1, by omega⟩
    have := hp.len
    rw [pred_Right.l0, if_neg (by omega), decide_eq_true (by omega)]
  | d + 1, i, k, h, hk => by
    obtain ⟨k, rfl⟩ : ∃ q, k = q + 1 := ⟨k - 1, by omega⟩
    have hl := hp.len
    have ih := right_l0 hp d (i + 1) k (by omega) (by omega)
    have ea : rd_T23 p (i : Int) = p.getD i z23 := by unfold rd_T23; rw [Int.toNat_natCast]
    have hm := get_mem (show i < p.length by omega)
    have h1 := right_up (p.getD i z23) true (k - 10) 10 (right_ok (hp.ok _ hm) (nms_ok _ (hp.name _ hm)).1)
    rw [show 10 + (k - 10) = k by omega] at h1
    have e1 : wrap64 ((i : Int) + 1) = ((i + 1 : Nat) : Int) := by unfold wrap64; omega
    rw [pred_Right.l0, if_pos (by omega), if_pos (by omega), if_pos (by omega), ea, h1]
    simp only [Option.bind_some, if_true]
    rw [e1]
    by_cases hi : (i : Int) > 0
    · have e2 : wrap64 ((i : Int) - 1) = ((i - 1 : Nat) : Int) := by unfold wrap64; omega
      have eb : rd_T23 p (((i - 1 : Nat)) : Int) = p.getD (i - 1) z23 := by unfold rd_T23; rw [Int.toNat_natCast]
      rw [if_pos hi, e2, if_pos (by omega), if_pos (by omega), eb, bless, decide_eq_true (hp.rises (i - 1) i (by omega) (by omega)), if_pos rfl]
      exact ih
    · rw [if_neg hi]
      exact ih
theorem right_nice {p : List S23} (hp : Nice nms p) : pred_Right.f 30 p = some true := right_l0 hp p.length 0 30 (by omega) (by have := hp.len; omega)
/-! Say -/
def nmb (l : List UInt8) : Int := l.foldl (fun n d => 10 * n + ((d.toNat : Int) - 48)) 0
def dec : List UInt8 → Option (List UInt8 × Int × Int × Int × List UInt8)
  | a :: 58 :: r => some ([a], 1, nmb (r.takeWhile (· != 46)), nmb ((r.dropWhile (· != 46)).drop 2), [])
  | a :: 61 :: 34 :: r => some ([a], 2, 0, 0, r.dropLast)
  | a :: 94 :: 34 :: r => some ([a], 3, 0, 0, r.dropLast)
  | _ => none
def oneB (c : S23) : ByteArray := (pred_one.f c.f0 c.f1 c.f2 c.f3 c.f4).getD ⟨#[]⟩
def ranges : List (Int × Int) := (List.range 10).flatMap fun (lo : Nat) => (List.range 19).map fun (hi : Nat) => ((lo : Int), (hi : Int))
def shapes : List S23 := ranges.map (fun r => rng r.1 r.2) ++ tcs
def allC : List S23 := nms.flatMap fun s => shapes.map fun c => ⟨s, c.f1, c.f2, c.f3, c.f4⟩
def okOne (c : S23) : Bool := match pred_one.f c.f0 c.f1 c.f2 c.f3 c.f4 with
  | some b => (b.data.toList.all (fun x => !(x == 44))) && Nat.ble b.data.toList.length 60 && Nat.ble 1 b.data.toList.length && (match dec b.data.toList with
    | some (n, k, lo, hi, t) => (n == c.f0.data.toList) && (k == c.f1) && (lo == c.f2) && (hi == c.f3) && (t == c.f4.data.toList)
    | none => false)
  | none => false
set_option maxRecDepth 100000 in
theorem one_all : allC.all okOne = true := by kernel_rfl
theorem okC_all {c : S23} (h : okC c) (hn : c.f0 ∈ nms) : c ∈ allC := by
  refine List.mem_flatMap.2 ⟨c.f0, hn, List.mem_map.2 ⟨strip c, ?_, rfl⟩⟩
  rcases h with ⟨lo, hi, p1, p2, p3, p4, e⟩ | h
  · refine List.mem_append.2 (.inl (List.mem_map.2 ⟨(lo, hi), ?_, e.symm⟩))
    refine List.mem_flatMap.2 ⟨lo.toNat, List.mem_range.2 (by omega), List.mem_map.2 ⟨hi.toNat, List.mem_range.2 (by omega), ?_⟩⟩
    show (((lo.toNat : Nat) : Int), ((hi.toNat : Nat) : Int)) = (lo, hi)
    rw [Int.toNat_of_nonneg p1, Int.toNat_of_nonneg (by omega)]
  · exact List.mem_append.2 (.inr h)
theorem one_ok {c : S23} (h : okC c) (hn : c.f0 ∈ nms) : pred_one.f c.f0 c.f1 c.f2 c.f3 c.f4 = some (oneB c) ∧ 44 ∉ (oneB c).data.toList ∧ (oneB c).data.toList.length ≤ 60 ∧ (oneB c).data.toList ≠ [] ∧ dec (oneB c).data.toList = some (c.f0.data.toList, c.f1, c.f2, c.f3, c.f4.data.toList) := by
  have h1 := List.all_eq_true.1 one_all c (okC_all h hn)
  unfold okOne at h1
  unfold oneB
  split at h1
  · rename_i b hb
    rw [hb]
    simp only [Option.getD_some]
    split at h1
    · rename_i n k lo hi t hd
      simp only [Bool.and_eq_true, beq_iff_eq] at h1
      obtain ⟨⟨⟨h2, h3⟩, h4⟩, ⟨⟨⟨h5, h6⟩, h7⟩, h8⟩, h9⟩ := h1
      refine ⟨by first | trivial | rfl, fun hx => ?_, Nat.le_of_ble_eq_true h3, fun e => ?_, by rw [hd, h5, h6, h7, h8, h9]⟩
      · have := List.all_eq_true.1 h2 _ hx
        simp at this
      · rw [e] at h4
        simp at h4
    · simp at h1
  · cases h1
theorem one_inj {c d : S23} (hc : okC c) (hcn : c.f0 ∈ nms) (hd : okC d) (hdn : d.f0 ∈ nms) (h : (oneB c).data.toList = (oneB d).data.toList) : c = d := by
  have h1 := (one_ok hc hcn).2.2.2.2
  have h2 := (one_ok hd hdn).2.2.2.2
  rw [h, h2] at h1
  simp only [Option.some.injEq, Prod.mk.injEq] at h1
  obtain ⟨e0, e1, e2, e3, e4⟩ := h1
  cases c; cases d
  simp only at e0 e1 e2 e3 e4
  rw [ba_ext e0, e1, e2, e3, ba_ext e4]
theorem join_len : ∀ xs : List (List UInt8), (∀ x ∈ xs, x.length ≤ 60) → (Go.Lib.join xs [44]).length ≤ xs.length * 61
  | [], _ => by rw [Go.Lib.join_nil]; simp
  | [x], h => by
    rw [Go.Lib.join_one]
    have := h x (by simp)
    simp
    omega
  | x :: y :: r, h => by
    rw [show Go.Lib.join (x :: y :: r) [44] = x ++ 44 :: Go.Lib.join (y :: r) [44] by rw [Go.Lib.join_cons, Go.Lib.join_cons]; simp [Go.Lib.joinTail]]
    have h1 := h x (by simp)
    have h2 := join_len (y :: r) (fun z hz => h z (List.mem_cons_of_mem _ hz))
    simp only [List.length_append, List.length_cons, List.length_nil] at h2 ⊢
    omega
theorem say_l0 {p : List S23} (hp : Nice nms p) : ∀ (d i k : Nat) (x3 : List ByteArray), i + d = p.length → d + 1 ≤ k → x3.length ≤ i →
    pred_Say.l0 k x3 p (p.length : Int) i = (strings_Join.f (x3 ++ (p.drop i).map oneB) (⟨#[44]⟩ : ByteArray)).bind fun t => some t
  | 0, i, k, x3, h, hk, hx => by
    obtain ⟨k, rfl⟩ : ∃ q, k = q + 1 := ⟨k - 1, by omega⟩
    rw [pred_Say.l0, if_neg (by omega), List.drop_eq_nil_of_le (by omega)]
    simp
  | d + 1, i, k, x3, h, hk, hx => by
    obtain ⟨k, rfl⟩ : ∃ q, k = q + 1 := ⟨k - 1, by omega⟩
    have hl := hp.len
    have hi : i < p.length := by omega
    have hm := get_mem hi
    have ih := say_l0 hp d (i + 1) k (x3 ++ [oneB (p.getD i z23)]) (by omega) (by omega) (by simp; omega)
    have ea : rd_T23 p (i : Int) = p.getD i z23 := by unfold rd_T23; rw [Int.toNat_natCast]
    rw [pred_Say.l0, if_pos (by omega), if_pos (by omega), if_pos (by omega), ea, (one_ok (hp.ok _ hm) (hp.name _ hm)).1]
    simp only [Option.bind_some]
    rw [if_pos (by omega), show wrap64 ((i : Int) + 1) = ((i + 1 : Nat) : Int) by unfold wrap64; omega, ih, drop_get p i hi]
    simp
def sayB (p : List S23) : ByteArray := ⟨(Go.Lib.join (p.map (fun c => (oneB c).data.toList)) [44]).toArray⟩
theorem say_f {p : List S23} (hp : Nice nms p) : pred_Say.f 30 p = some (sayB p) := by
  have hl := hp.len
  unfold pred_Say.f
  have h := say_l0 hp p.length 0 30 [] (by omega) (by omega) (by simp)
  rw [show ((0 : Nat) : Int) = 0 from rfl] at h
  rw [h]
  unfold strings_Join.f
  have e : (([] ++ List.map oneB (List.drop 0 p)).map (fun x : ByteArray => x.data.toList)) = p.map (fun c => (oneB c).data.toList) := by simp
  rw [e]
  have hj := join_len (p.map (fun c => (oneB c).data.toList)) (fun x hx => by
    obtain ⟨c, hc, rfl⟩ := List.mem_map.1 hx
    exact (one_ok (hp.ok c hc) (hp.name c hc)).2.2.1)
  rw [List.length_map] at hj
  rw [if_pos (by show (Go.Lib.join _ [44]).length ≤ 100000; omega), if_pos (by simp; omega)]
  rfl
theorem say_inj {p q : List S23} (hp : Nice nms p) (hq : Nice nms q) : sayB p = sayB q ↔ p = q := by
  constructor
  · intro h
    have h1 : Go.Lib.join (p.map (fun c => (oneB c).data.toList)) [44] = Go.Lib.join (q.map (fun c => (oneB c).data.toList)) [44] := by
      unfold sayB at h
      simpa using h
    have hh : ∀ {p : List S23}, Nice nms p → ∀ x ∈ p.map (fun c => (oneB c).data.toList), 44 ∉ x ∧ x ≠ [] := fun hp x hx => by
      obtain ⟨c, hc, rfl⟩ := List.mem_map.1 hx
      have := one_ok (hp.ok c hc) (hp.name c hc)
      exact ⟨this.2.1, this.2.2.2.1⟩
    have h2 := join_inj _ _ (hh hp) (hh hq) h1
    have key : ∀ a b : List S23, (∀ c ∈ a, okC c ∧ c.f0 ∈ nms) → (∀ c ∈ b, okC c ∧ c.f0 ∈ nms) → a.map (fun c => (oneB c).data.toList) = b.map (fun c => (oneB c).data.toList) → a = b := by
      intro a
      induction a with
      | nil => intro b _ _ h; cases b with
        | nil => rfl
        | cons y t => simp at h
      | cons x s ih => intro b ha hb h; cases b with
        | nil => simp at h
        | cons y t =>
          rw [List.map_cons, List.map_cons, List.cons.injEq] at h
          have hx := ha x List.mem_cons_self
          have hy := hb y List.mem_cons_self
          rw [one_inj hx.1 hx.2 hy.1 hy.2 h.1, ih t (fun c hc => ha c (List.mem_cons_of_mem _ hc)) (fun c hc => hb c (List.mem_cons_of_mem _ hc)) h.2]
    exact key p q (fun c hc => ⟨hp.ok c hc, hp.name c hc⟩) (fun c hc => ⟨hq.ok c hc, hq.name c hc⟩) h2
  · rintro rfl; rfl
end Go.Proofs.YtfabnapjbgamaaaGreatDoor.MPred
