import Derived.Test.YtpkdfjlkhfjlcaaDoorVaU
import Derived.Test.YtpkdfjlkhfjlcaaDoorVaT
import Derived.Test.YtpkdfjlkhfjlcaaDoorVaQ
import Derived.Test.YtpkdfjlkhfjlcaaDoorVaX0
import Derived.Test.YtpkdfjlkhfjlcaaDoorVaXt
import Derived.Test.YtpkdfjlkhfjlcaaDoorVaXu
import Derived.Test.YtpkdfjlkhfjlcaaDoorVaXv
namespace Go.Proofs.YtpkdfjlkhfjlcaaDoor.MVal
open Go.RowKit Go.Proofs.YtpkdfjlkhfjlcaaDoorW.PrintWords Go.Proofs.YtpkdfjlkhfjlcaaDoorW.PrintLast
set_option linter.unusedVariables false
theorem toList_inj {a b : ByteArray} (h : a.toList = b.toList) : a = b := by
  rw [Go.ByteArray.toList_eq, Go.ByteArray.toList_eq] at h
  exact ByteArray.ext (Array.ext' h)
theorem esc_cons (a : UInt8) (l : List UInt8) : Val.esc (a :: l) = (if Val.spc a then [92, a] else [a]) ++ Val.esc l := by simp [Val.esc]
theorem spc_92 : Val.spc 92 = true := by decide
theorem esc_inj : ∀ l m : List UInt8, Val.esc l = Val.esc m → l = m
  | [], [], _ => rfl
  | [], b :: m, h => by
    rw [esc_cons] at h
    split at h <;> simp [Val.esc] at h
  | a :: l, [], h => by
    rw [esc_cons] at h
    split at h <;> simp [Val.esc] at h
  | a :: l, b :: m, h => by
    rw [esc_cons, esc_cons] at h
    split at h <;> split at h
    · simp only [List.cons_append, List.nil_append, List.cons.injEq, true_and] at h
      rw [h.1, esc_inj l m h.2]
    · rename_i h1 h2
      simp only [List.cons_append, List.nil_append, List.cons.injEq] at h
      rw [← h.1] at h2; exact absurd spc_92 h2
    · rename_i h1 h2
      simp only [List.cons_append, List.nil_append, List.cons.injEq] at h
      rw [h.1] at h1; exact absurd spc_92 h1
    · simp only [List.cons_append, List.nil_append, List.cons.injEq] at h
      rw [h.1, esc_inj l m h.2]
theorem quote_list (s : ByteArray) : (Val.quote s).data.toList = 34 :: (Val.esc s.data.toList ++ [34]) := by
  unfold Val.quote
  simp [ByteArray.data_append]
theorem quote_inj {s t : ByteArray} (h : Val.quote s = Val.quote t) : s = t := by
  have h1 : (Val.quote s).data.toList = (Val.quote t).data.toList := by rw [h]
  rw [quote_list, quote_list] at h1
  simp only [List.cons.injEq, true_and] at h1
  have h2 := esc_inj _ _ (List.append_cancel_right h1)
  exact ByteArray.ext (Array.ext' h2)
def valD : List UInt8 → Nat := fun l => l.foldl (fun a b => a * 10 + (b.toNat - 48)) 0
theorem valD_snoc (l : List UInt8) (b : UInt8) : valD (l ++ [b]) = valD l * 10 + (b.toNat - 48) := by simp [valD]
theorem dig_nat (u : Nat) (h : u < 10) : (UInt8.ofNat (48 + u)).toNat = 48 + u := by
  rw [UInt8.toNat_ofNat']; omega
theorem dec_val (k : Nat) : ∀ u : Nat, u < 10 ^ k → valD (Go.Lib.decDigits u) = u := by
  induction k with
  | zero => intro u h; obtain rfl : u = 0 := by simpa using h
            rw [Go.Lib.decDigits, dif_pos (by omega)]; rfl
  | succ k ih =>
    intro u h
    rw [Go.Lib.decDigits]
    split
    · rename_i h1
      have := dig_nat u h1
      simp only [valD, List.foldl_cons, List.foldl_nil]; omega
    · rw [valD_snoc, ih (u / 10) (by rw [Nat.pow_succ] at h; omega), dig_nat _ (by omega)]; omega
theorem dec_val' (u : Nat) : valD (Go.Lib.decDigits u) = u := dec_val (u + 1) u (by
  have : u + 1 < 10 ^ (u + 1) := Nat.lt_pow_self (by omega)
  omega)
theorem dec_head (u : Nat) : ∀ k, u < 10 ^ k → ∃ b l, Go.Lib.decDigits u = b :: l ∧ 48 ≤ b.toNat := by
  intro k
  induction k generalizing u with
  | zero => intro h; obtain rfl : u = 0 := by simpa using h
            exact ⟨48, [], by rw [Go.Lib.decDigits, dif_pos (by omega)]; rfl, by decide⟩
  | succ k ih =>
    intro h
    rw [Go.Lib.decDigits]
    split
    · rename_i h1
      exact ⟨_, [], rfl, by rw [dig_nat _ h1]; omega⟩
    · obtain ⟨b, l, e, hb⟩ := ih (u / 10) (by rw [Nat.pow_succ] at h; omega)
      exact ⟨b, l ++ _, by rw [e]; rfl, hb⟩
theorem dec_head' (u : Nat) : ∃ b l, Go.Lib.decDigits u = b :: l ∧ 48 ≤ b.toNat := dec_head u (u + 1) (by
  have : u + 1 < 10 ^ (u + 1) := Nat.lt_pow_self (by omega)
  omega)
theorem itoa_head (n : Int) : ∃ b l, Go.Lib.itoa n = b :: l ∧ b ≠ 34 := by
  unfold Go.Lib.itoa
  split
  · exact ⟨45, _, rfl, by decide⟩
  · obtain ⟨b, l, e, h⟩ := dec_head' n.toNat
    exact ⟨b, l, e, fun e => by rw [e] at h; revert h; decide⟩
theorem itoa_inj {m n : Int} (h : Go.Lib.itoa m = Go.Lib.itoa n) : m = n := by
  unfold Go.Lib.itoa at h
  split at h <;> split at h
  · simp only [List.cons.injEq, true_and] at h
    have := congrArg valD h
    rw [dec_val', dec_val'] at this
    omega
  · obtain ⟨b, l, e, hb⟩ := dec_head' n.toNat
    rw [e] at h
    simp only [List.cons.injEq] at h
    rw [← h.1] at hb; exact absurd hb (by decide)
  · obtain ⟨b, l, e, hb⟩ := dec_head' m.toNat
    rw [e] at h
    simp only [List.cons.injEq] at h
    rw [h.1] at hb; exact absurd hb (by decide)
  · have := congrArg valD h
    rw [dec_val', dec_val'] at this
    omega
theorem vitoa_inj {m n : Int} (h : Val.itoa m = Val.itoa n) : m = n := by
  unfold Val.itoa at h
  have h1 := congrArg (fun b : ByteArray => b.data.toList) h
  exact itoa_inj (by simpa using h1)
theorem quote_itoa (s : ByteArray) (n : Int) : Val.quote s ≠ Val.itoa n := by
  intro h
  have h1 := congrArg (fun b : ByteArray => b.data.toList) h
  obtain ⟨b, l, e, hb⟩ := itoa_head n
  simp only [quote_list, Val.itoa, e, List.cons.injEq] at h1
  exact hb h1.1.symm
theorem tl_beq (u v : ByteArray) : (u.toList == v.toList) = decide (u = v) := by
  by_cases h : u = v
  · subst h; simp
  · rw [decide_eq_false h, beq_eq_false_iff_ne]
    intro e; exact h (toList_inj e)
/-- What the law asks of two right values. -/
theorem say_two (a0 : Bool) (a1 : Int) (A : ByteArray) (b0 : Bool) (b1 : Int) (B : ByteArray) (hA : A.size ≤ 15) (hB : B.size ≤ 15) (ha1 : -9223372036854775808 ≤ a1 ∧ a1 ≤ 9223372036854775807) (hb1 : -9223372036854775808 ≤ b1 ∧ b1 ≤ 9223372036854775807)
    (ra : value_Right.f a0 a1 A = some true) (rb : value_Right.f b0 b1 B = some true) :
    ∃ u v E, value_Say.f a0 a1 A = some u ∧ value_Say.f b0 b1 B = some v ∧ eqV a0 a1 A b0 b1 B = E ∧ (u.toList == v.toList) = E ∧ (u.toList == ([] : List UInt8)) = false := by
  have fact : ∀ (c0 : Bool) (c1 : Int) (C : ByteArray), value_Right.f c0 c1 C = some true → (c0 = true ∧ c1 = 0) ∨ (c0 = false ∧ C = ⟨#[]⟩) := by
    intro c0 c1 C h
    unfold value_Right.f at h
    cases c0
    · rw [if_neg (by simp)] at h
      exact .inr ⟨rfl, toList_inj (by simpa using h)⟩
    · rw [if_pos rfl] at h
      split at h
      · exact .inl ⟨rfl, ‹_›⟩
      · simp at h
  have hq : ∀ s, ((Val.quote s).toList == ([] : List UInt8)) = false := fun s => by
    have e : ([] : List UInt8) = (⟨#[]⟩ : ByteArray).toList := by kernel_rfl
    rw [e, tl_beq, decide_eq_false]
    intro h
    have := congrArg (fun b : ByteArray => b.data.toList) h
    simp [quote_list] at this
  have hi : ∀ n, ((Val.itoa n).toList == ([] : List UInt8)) = false := fun n => by
    have e : ([] : List UInt8) = (⟨#[]⟩ : ByteArray).toList := by kernel_rfl
    rw [e, tl_beq, decide_eq_false]
    intro h
    have := congrArg (fun b : ByteArray => b.data.toList) h
    obtain ⟨b, l, e, hb⟩ := itoa_head n
    simp [Val.itoa, e] at this
  have sI : ∀ (c1 : Int) (C : ByteArray), -9223372036854775808 ≤ c1 ∧ c1 ≤ 9223372036854775807 → value_Say.f false c1 C = some (Val.itoa c1) := fun c1 C h => by unfold value_Say.f; rw [if_neg (by simp), if_pos h.1, if_pos h.2]
  have sT : ∀ (c1 : Int) (C : ByteArray), C.size ≤ 15 → value_Say.f true c1 C = some (Val.quote C) := fun c1 C h => by unfold value_Say.f; rw [if_pos rfl, if_pos h]
  rcases fact _ _ _ ra with ⟨rfl, rfl⟩ | ⟨rfl, rfl⟩ <;> rcases fact _ _ _ rb with ⟨rfl, rfl⟩ | ⟨rfl, rfl⟩
  · refine ⟨_, _, _, sT _ _ hA, sT _ _ hB, rfl, ?_, hq _⟩
    unfold eqV
    rw [tl_beq, tl_beq]
    by_cases h : A = B
    · subst h; simp
    · rw [decide_eq_false h, decide_eq_false (fun e => h (quote_inj e))]; simp
  · refine ⟨_, _, _, sT _ _ hA, sI _ _ hb1, rfl, ?_, hq _⟩
    unfold eqV
    rw [tl_beq, decide_eq_false (quote_itoa _ _)]; simp
  · refine ⟨_, _, _, sI _ _ ha1, sT _ _ hB, rfl, ?_, hi _⟩
    unfold eqV
    rw [tl_beq, decide_eq_false (fun e => quote_itoa _ _ e.symm)]; simp
  · refine ⟨_, _, _, sI _ _ ha1, sI _ _ hb1, rfl, ?_, hi _⟩
    unfold eqV
    rw [tl_beq, tl_beq]
    by_cases h : a1 = b1
    · subst h; simp
    · rw [decide_eq_false (fun e => h (vitoa_inj e))]; simp [h]
theorem right_some (a0 : Bool) (a1 : Int) (A : ByteArray) : ∃ x, value_Right.f a0 a1 A = some x := by
  unfold value_Right.f
  split
  · split
    · exact ⟨_, rfl⟩
    · exact ⟨_, rfl⟩
  · exact ⟨_, rfl⟩
theorem tells_calls (a0 : Bool) (a1 : Int) (a2 : ByteArray) (b0 : Bool) (b1 : Int) (b2 : ByteArray) (n : Int) (s : ByteArray) (w : World) (HTAB : Aside0 (Val.Tab w)) (ha1 : -9223372036854775808 ≤ a1 ∧ a1 ≤ 9223372036854775807) (hb1 : -9223372036854775808 ≤ b1 ∧ b1 ≤ 9223372036854775807) :
    Calls Tryd.prog 8 #[.agg #[.bool a0, .int .i64 a1, .string a2], .agg #[.bool b0, .int .i64 b1, .string b2], .int .i64 n, .string s] w fun e w' => e = .returned (.bool true) ∧ Below w.heap.size w w' := by
  obtain ⟨ma, A, ema, hA, hca⟩ := cut15 a2
  obtain ⟨mb, B, emb, hB, hcb⟩ := cut15 b2
  obtain ⟨ms, S, ems, hS, hcs⟩ := cut15 s
  obtain ⟨x, hx⟩ := right_some a0 a1 A
  obtain ⟨y, hy⟩ := right_some b0 b1 B
  have hv : broadsideref1_RightValue.f a0 a1 A = some x := hx
  cases x
  · cases a0 <;> cases b0
    · exact tells_f_00 a1 a2 b1 b2 n s w HTAB ma mb ms A B S ema emb ems hca hcb hcs y ⟨hx⟩ ⟨hy⟩ ⟨hv⟩
    · exact tells_f_01 a1 a2 b1 b2 n s w HTAB ma mb ms A B S ema emb ems hca hcb hcs y ⟨hx⟩ ⟨hy⟩ ⟨hv⟩
    · exact tells_f_10 a1 a2 b1 b2 n s w HTAB ma mb ms A B S ema emb ems hca hcb hcs y ⟨hx⟩ ⟨hy⟩ ⟨hv⟩
    · exact tells_f_11 a1 a2 b1 b2 n s w HTAB ma mb ms A B S ema emb ems hca hcb hcs y ⟨hx⟩ ⟨hy⟩ ⟨hv⟩
  cases y
  · cases a0 <;> cases b0
    · exact tells_tf_00 a1 a2 b1 b2 n s w HTAB ma mb ms A B S ema emb ems hca hcb hcs ⟨hx⟩ ⟨hy⟩ ⟨hv⟩
    · exact tells_tf_01 a1 a2 b1 b2 n s w HTAB ma mb ms A B S ema emb ems hca hcb hcs ⟨hx⟩ ⟨hy⟩ ⟨hv⟩
    · exact tells_tf_10 a1 a2 b1 b2 n s w HTAB ma mb ms A B S ema emb ems hca hcb hcs ⟨hx⟩ ⟨hy⟩ ⟨hv⟩
    · exact tells_tf_11 a1 a2 b1 b2 n s w HTAB ma mb ms A B S ema emb ems hca hcb hcs ⟨hx⟩ ⟨hy⟩ ⟨hv⟩
  · obtain ⟨u, v, E, hu, hw, he, hs, hn⟩ := say_two a0 a1 A b0 b1 B hA hB ha1 hb1 hx hy
    cases a0 <;> cases b0
    · exact tells_tt_00 a1 a2 b1 b2 n s w HTAB ma mb ms A B S ema emb ems hca hcb hcs ⟨hx⟩ ⟨hy⟩ ⟨hv⟩ u v E ⟨hu⟩ ⟨hw⟩ ⟨he⟩ ⟨hs⟩ ⟨hn⟩
    · exact tells_tt_01 a1 a2 b1 b2 n s w HTAB ma mb ms A B S ema emb ems hca hcb hcs ⟨hx⟩ ⟨hy⟩ ⟨hv⟩ u v E ⟨hu⟩ ⟨hw⟩ ⟨he⟩ ⟨hs⟩ ⟨hn⟩
    · exact tells_tt_10 a1 a2 b1 b2 n s w HTAB ma mb ms A B S ema emb ems hca hcb hcs ⟨hx⟩ ⟨hy⟩ ⟨hv⟩ u v E ⟨hu⟩ ⟨hw⟩ ⟨he⟩ ⟨hs⟩ ⟨hn⟩
    · exact tells_tt_11 a1 a2 b1 b2 n s w HTAB ma mb ms A B S ema emb ems hca hcb hcs ⟨hx⟩ ⟨hy⟩ ⟨hv⟩ u v E ⟨hu⟩ ⟨hw⟩ ⟨he⟩ ⟨hs⟩ ⟨hn⟩
end Go.Proofs.YtpkdfjlkhfjlcaaDoor.MVal
