import Derived.Test.YtgdieejhglhkcaaGreatDoorTuU0
import Derived.Test.YtgdieejhglhkcaaGreatDoorMTupU
namespace Go.Proofs.YtgdieejhglhkcaaGreatDoor.MTup
open Go.RowKit Go.Lib Go.Proofs.YtgdieejhglhkcaaGreatDoorW.PrintWords Go.Proofs.YtgdieejhglhkcaaGreatDoorW.PrintLast Go.Proofs.YtgdieejhglhkcaaGreatDoorW.PrintMore
set_option linter.unusedVariables false
set_option linter.unusedSimpArgs false
theorem wrap_nat' (i : Nat) (h : i < 9223372036854775807) : wrap64 ((i : Int) + 1) = ((i + 1 : Nat) : Int) := by unfold wrap64; omega
theorem tn_put {l : List S25} (hT : TN l) {s : ByteArray} (hs : s ∈ nms) {v : S23} (hv : v ∈ smpV) (h5 : (putA l ⟨s, v⟩).length ≤ 5) : TN (putA l ⟨s, v⟩) where
  up := putA_up hT.up _
  len := h5
  name := fun x hx => by
    rcases (putA_mem hT.up _ _).1 hx with h | h
    · rw [h]; exact hs
    · exact hT.name x h.1
  val := fun x hx => by
    rcases (putA_mem hT.up _ _).1 hx with h | h
    · rw [h]; exact hv
    · exact hT.val x h.1
theorem puts_l2 (l : List S25) (hT : TN l) (v : Int) : ∀ (d i k : Nat), i + d = 7 → d + 100 ≤ k → broadsidelaw3_TuplePuts.l2 k v l nms (nms.length : Int) i = some true
  | 0, i, k, h, hk => by
    obtain ⟨k, rfl⟩ : ∃ q, k = q + 1 := ⟨k - 1, by omega⟩
    have h7 : (nms.length : Int) = 7 := rfl
    rw [broadsidelaw3_TuplePuts.l2, if_neg (by omega), right_char hT k (by omega), Option.bind_some, if_pos rfl, up_fuel (g := fun k => broadsidelaw3_TupleRuns.f k) (fun k => broadsidelaw3_TupleRuns.mono k) runs_true k (by omega), Option.bind_some]
  | d + 1, i, k, h, hk => by
    obtain ⟨k, rfl⟩ : ∃ q, k = q + 1 := ⟨k - 1, by omega⟩
    have h7 : (nms.length : Int) = 7 := rfl
    obtain ⟨q, hq, hqm⟩ := vals_smp v
    have hs : rdOf ByteArray.empty nms (i : Int) ∈ nms := by
      unfold rdOf
      rw [Int.toNat_natCast, List.getD_eq_getElem?_getD, List.getElem?_eq_getElem (show i < nms.length by show i < 7; omega)]
      exact List.getElem_mem _
    have ih := puts_l2 l hT v d (i + 1) k (by omega) (by omega)
    have h5 := hT.len
    have hle := putA_le l ⟨rdOf ByteArray.empty nms (i : Int), q⟩
    rw [broadsidelaw3_TuplePuts.l2, if_pos (by omega), if_pos (by omega), if_pos (by omega), hq, Option.bind_some]
    rw [put_f l hT.up (by omega) _ q, Option.bind_some, get_char _ _ (by omega) k (by omega), getA_put hT.up, Option.bind_some]
    show (if true = true then _ else _) = _
    rw [if_pos rfl, Option.bind_some, if_neg (by simp), wrap_nat i (by omega)]
    split
    · rename_i h6
      rw [right_char (tn_put hT hs hqm (by omega)) k (by omega), Option.bind_some, if_pos rfl]
      exact ih
    · exact ih
theorem puts_l1 (l m x : List S25) (hl : TN l) (hm : TN m) (hx : x.length ≤ 5) (hxl : ∀ z, z ∈ x ↔ z ∈ l) (v : Int) : ∀ (d i k : Nat), i + d = x.length → d + 400 ≤ k →
    broadsidelaw3_TuplePuts.l1 k v l m ((x.take i).foldl (fun a x => put cmpB nm25 x a) []) x x.length i = some true
  | 0, i, k, h, hk => by
    obtain ⟨k, rfl⟩ : ∃ q, k = q + 1 := ⟨k - 1, by omega⟩
    have h5 := hl.len
    rw [broadsidelaw3_TuplePuts.l1, if_neg (by omega), List.take_of_length_le (by omega), puts_all cmpB_cmp hl.up hxl]
    obtain ⟨b0, e0, i0⟩ := same2_char l l (by omega) k (by omega)
    obtain ⟨b1, e1, i1⟩ := same_char l m (by omega) k (by omega)
    obtain ⟨b2, e2, i2⟩ := same2_char l m (by omega) k (by omega)
    have hb : b1 = b2 := by rw [Bool.eq_iff_iff, i1, i2]
    subst hb
    have hst : ((sayT l).toList == (sayT m).toList) = b1 := by
      rw [Bool.eq_iff_iff, i1, beq_iff_eq]
      exact ⟨fun h => sayT_inj hl hm h, fun h => by rw [h]⟩
    rw [e0, i0.2 rfl, Option.bind_some, if_pos rfl, e1, Option.bind_some, e2, Option.bind_some, if_neg (by simp), say_char l hl k (by omega), Option.bind_some, say_char m hm k (by omega), Option.bind_some, Option.bind_some, hst]
    rw [show (b1 != b1) = false by simp]
    obtain ⟨k, rfl⟩ : ∃ q, k = q + 1 := ⟨k - 1, by omega⟩
    rw [broadsidelaw3_TuplePuts.j3, if_neg (by simp), show broadsidekeep_Names.f = some nms from rfl, Option.bind_some]
    exact puts_l2 l hl v 7 0 k (by omega) (by omega)
  | d + 1, i, k, h, hk => by
    obtain ⟨k, rfl⟩ : ∃ q, k = q + 1 := ⟨k - 1, by omega⟩
    have ih := puts_l1 l m x hl hm hx hxl v d (i + 1) k (by omega) (by omega)
    have hup := puts_up cmpB_cmp (x.take i) [] (Up.nil (c := cmpB) (key := nm25))
    have hlen : ∀ (q : List S25) (a : List S25), (q.foldl (fun a x => put cmpB nm25 x a) a).length ≤ a.length + q.length := by
      intro q
      induction q with
      | nil => intro a; simp
      | cons y t ih2 =>
        intro a
        have h1 := ih2 (put cmpB nm25 y a)
        have h2 := put_len_le a y a
        simp only [List.foldl_cons, List.length_cons]
        omega
    have hl2 := hlen (x.take i) []
    rw [List.length_take, List.length_nil] at hl2
    have ht : x.take (i + 1) = x.take i ++ [x.getD i z25] := by
      rw [List.take_succ_eq_append_getElem (by omega), List.getD_eq_getElem?_getD, List.getElem?_eq_getElem (show i < x.length by omega)]; rfl
    rw [broadsidelaw3_TuplePuts.l1, if_pos (by omega), if_pos (by omega), if_pos (by omega), rd25, put_f _ hup (by omega) (x.getD i z25).f0 (x.getD i z25).f1, Option.bind_some, wrap_nat i (by omega)]
    rw [ht, List.foldl_append] at ih
    exact ih
theorem rot_mem (l : List S25) (n : Nat) (hn : n < l.length) (z : S25) : z ∈ [] ++ [(⟨(l.getD n z25).f0, ⟨(l.getD n z25).f1.f0, (l.getD n z25).f1.f1, (l.getD n z25).f1.f2⟩⟩ : S25)] ++ l.take n ++ l.drop (n + 1) ↔ z ∈ l := by
  have e : l = l.take n ++ l.getD n z25 :: l.drop (n + 1) := by
    rw [← drop25 l n hn, List.take_append_drop]
  show z ∈ [l.getD n z25] ++ l.take n ++ l.drop (n + 1) ↔ z ∈ l
  constructor
  · intro h
    rw [e]
    simp only [List.mem_append, List.mem_cons, List.not_mem_nil, or_false] at h ⊢
    rcases h with (h | h) | h
    · exact .inr (.inl h)
    · exact .inl h
    · exact .inr (.inr h)
  · intro h
    rw [e] at h
    simp only [List.mem_append, List.mem_cons, List.not_mem_nil, or_false] at h ⊢
    rcases h with h | h | h
    · exact .inl (.inr h)
    · exact .inl (.inl h)
    · exact .inr h
theorem puts_l0 (order : List Int) (ho : order.length ≤ 9223372036854775807) (l m : List S25) (hl : TN l) (hm : TN m) (v : Int) : ∀ (d i k : Nat) (x : List S25), i + d = order.length → d + 500 ≤ k → x.length ≤ 5 → (∀ z, z ∈ x ↔ z ∈ l) →
    broadsidelaw3_TuplePuts.l0 k order v l m x i = some true
  | 0, i, k, x, h, hk, hx, hxl => by
    obtain ⟨k, rfl⟩ : ∃ q, k = q + 1 + 1 := ⟨k - 2, by omega⟩
    rw [broadsidelaw3_TuplePuts.l0, if_neg (by omega), broadsidelaw3_TuplePuts.j1]
    exact puts_l1 l m x hl hm hx hxl v x.length 0 k (by omega) (by omega)
  | d + 1, i, k, x, h, hk, hx, hxl => by
    obtain ⟨k, rfl⟩ : ∃ q, k = q + 1 + 1 := ⟨k - 2, by omega⟩
    rw [broadsidelaw3_TuplePuts.l0, if_pos (by omega)]
    split
    · rename_i h1
      have e1 : wrap64 ((x.length : Int) - 1) = (x.length : Int) - 1 := by unfold wrap64; omega
      rw [if_pos (by omega), e1, fo_within _ _ (by omega) (by omega), Option.bind_some, Option.bind_some]
      generalize hq : rd order (i : Int) % ((x.length : Int) - 1 + 1) = q
      have q0 : 0 ≤ q := by rw [← hq]; exact Int.emod_nonneg _ (by omega)
      have q1 : q < x.length := by have := Int.emod_lt_of_pos (rd order (i : Int)) (b := (x.length : Int) - 1 + 1) (by omega); omega
      obtain ⟨n, rfl⟩ := Int.eq_ofNat_of_zero_le q0
      have e2 : wrap64 ((n : Int) + 1) = ((n + 1 : Nat) : Int) := by unfold wrap64; omega
      rw [if_pos (by omega), if_pos (by omega), if_pos (by simp), Option.bind_some, if_pos (by omega), Int.toNat_natCast, Option.bind_some, if_pos (by simp; omega), Option.bind_some, e2, if_pos (by omega), if_pos (by omega), Int.toNat_natCast, Option.bind_some, if_pos (by simp; omega), rd25, wrap_nat' i (by omega)]
      refine puts_l0 order ho l m hl hm v d (i + 1) (k + 1) _ (by omega) (by omega) (by simp; omega) (fun z => ?_)
      rw [rot_mem x n (by omega) z]
      exact hxl z
    · rw [broadsidelaw3_TuplePuts.j1]
      exact puts_l1 l m x hl hm hx hxl v x.length 0 k (by omega) (by omega)
theorem puts_true (a0 a1 b0 b1 order : List Int) (ho : order.length ≤ 9223372036854775807) (v : Int) : ∃ k, broadsidelaw3_TuplePuts.f k a0 a1 b0 b1 order v = some true := by
  obtain ⟨k, hk⟩ : ∃ k, k = order.length + 600 := ⟨_, rfl⟩
  obtain ⟨l, el, hl⟩ := tup_nice a0 a1 k (by omega)
  obtain ⟨m, em, hm⟩ := tup_nice b0 b1 k (by omega)
  have h5 := hl.len
  refine ⟨k, ?_⟩
  unfold broadsidelaw3_TuplePuts.f
  rw [el, Option.bind_some, em, Option.bind_some, Option.bind_some, if_pos (by simp; omega), List.nil_append]
  exact puts_l0 order ho l m hl hm v order.length 0 k l (by omega) (by omega) h5 (fun z => Iff.rfl)
theorem puts_calls (A0_0 : Option Addr) (c0_0 : Nat) (l0_0 : List Int) (A0_1 : Option Addr) (c0_1 : Nat) (l0_1 : List Int) (A1_0 : Option Addr) (c1_0 : Nat) (l1_0 : List Int) (A1_1 : Option Addr) (c1_1 : Nat) (l1_1 : List Int) (A2 : Option Addr) (c2 : Nat) (l2 : List Int) (a3 : Int) (w : World) (HTAB : Aside0 (Val.Tab w)) (hr0_0 : Kd.C (Kd.int .i64) w A0_0 l0_0.length l0_0) (hc0_0 : l0_0.length ≤ c0_0) (hr0_1 : Kd.C (Kd.int .i64) w A0_1 l0_1.length l0_1) (hc0_1 : l0_1.length ≤ c0_1) (hr1_0 : Kd.C (Kd.int .i64) w A1_0 l1_0.length l1_0) (hc1_0 : l1_0.length ≤ c1_0) (hr1_1 : Kd.C (Kd.int .i64) w A1_1 l1_1.length l1_1) (hc1_1 : l1_1.length ≤ c1_1) (hr2 : Kd.C (Kd.int .i64) w A2 l2.length l2) (hc2 : l2.length ≤ c2) :
    Calls Tryz.prog 6 #[.agg #[.slice A0_0 l0_0.length c0_0, .slice A0_1 l0_1.length c0_1], .agg #[.slice A1_0 l1_0.length c1_0, .slice A1_1 l1_1.length c1_1], .slice A2 l2.length c2, .int .i64 a3] w fun e w' => e = .returned (.bool true) ∧ Below w.heap.size w w' := by
  obtain ⟨k, hk⟩ := puts_true l0_0 l0_1 l1_0 l1_1 l2 hr2.2.1 a3
  exact broadsidelaw3_TuplePuts.calls k A0_0 c0_0 l0_0 A0_1 c0_1 l0_1 A1_0 c1_0 l1_0 A1_1 c1_1 l1_1 A2 c2 l2 a3 true w HTAB ⟨rfl⟩ hr0_0 hc0_0 hr0_1 hc0_1 hr1_0 hc1_0 hr1_1 hc1_1 hr2 hc2 hk
end Go.Proofs.YtgdieejhglhkcaaGreatDoor.MTup
