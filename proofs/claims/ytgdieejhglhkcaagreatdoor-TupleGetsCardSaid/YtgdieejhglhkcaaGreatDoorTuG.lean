import Derived.Test.YtgdieejhglhkcaaGreatDoorTuP
import Derived.Test.YtgdieejhglhkcaaGreatDoorMTupx10
namespace Go.Proofs.YtgdieejhglhkcaaGreatDoor.MTup
open Go.RowKit Go.Lib Go.Proofs.YtgdieejhglhkcaaGreatDoorW.PrintWords Go.Proofs.YtgdieejhglhkcaaGreatDoorW.PrintLast Go.Proofs.YtgdieejhglhkcaaGreatDoorW.PrintMore
set_option linter.unusedVariables false
set_option linter.unusedSimpArgs false
theorem nms_one : ∀ s ∈ nms, s.size ≤ 1 := by
  have h1 : (nms.all fun s => decide (s.size ≤ 1)) = true := by kernel_rfl
  exact fun s hs => by simpa using List.all_eq_true.1 h1 s hs
theorem getR_some (v : S23) : getR (some v) = (v.f0, v.f1, v.f2, true) := rfl
theorem gets_l0 (l x y z : List S25) (s : ByteArray) (b : Bool) (hy : y.length ≤ 9) (hl : l.length ≤ 9) (K : Nat) (hK : 20 ≤ K)
    (hin : ∀ a ∈ l, ∃ v, getA y a.f0 = some v ∧ (a.f0 ≠ s → v = a.f1))
    (hend : ∀ k, K ≤ k → ∃ r1 r2, (tuple_Get.f k y (⟨#[110, 111, 98, 111, 100, 121]⟩ : ByteArray)) = some r1 ∧ tuple_Get.f k ([] : List S25) s = some r2 ∧ (if b = true then broadsidelaw3_TupleGets.j1 k l y z r1.2.2.2 r2.2.2.2 0 else broadsidelaw3_TupleGets.j1 k l y z r1.2.2.2 r2.2.2.2 1) = some true) :
    ∀ (d i k : Nat), i + d = l.length → d + K + 1 ≤ k → broadsidelaw3_TupleGets.l0 k l s y z b l l.length i = some true
  | 0, i, k, h, hk => by
    obtain ⟨k, rfl⟩ : ∃ q, k = q + 1 := ⟨k - 1, by omega⟩
    obtain ⟨r1, r2, h1, h2, h3⟩ := hend k (by omega)
    rw [broadsidelaw3_TupleGets.l0, if_neg (by omega), h1]
    simp only [Option.bind_some]
    rw [h2]
    simp only [Option.bind_some]
    exact h3
  | d + 1, i, k, h, hk => by
    obtain ⟨k, rfl⟩ : ∃ q, k = q + 1 := ⟨k - 1, by omega⟩
    have hm := getD_mem25 l i (by omega)
    obtain ⟨v, hv, hne⟩ := hin _ hm
    have ih := gets_l0 l x y z s b hy hl K hK hin hend d (i + 1) k (by omega) (by omega)
    rw [broadsidelaw3_TupleGets.l0, if_pos (by omega), if_pos (by omega), if_pos (by omega), rd25, get_char y _ hy k (by omega), hv, getR_some]
    simp only [Option.bind_some, if_true]
    rw [wrap_nat i (by omega)]
    by_cases e : (l.getD i z25).f0.toList = s.toList
    · rw [if_pos e]; exact ih
    · rw [if_neg e, hne (fun h2 => e (by rw [h2])), if_neg (by simp)]
      exact ih
theorem gets_true (a0 a1 : List Int) (n v w : Int) : ∃ k, broadsidelaw3_TupleGets.f k a0 a1 n v w = some true := by
  obtain ⟨l, hl, hT⟩ := tup_nice a0 a1 400 (by omega)
  obtain ⟨q, hq, hqm⟩ := vals_smp v
  obtain ⟨u, hu, hum⟩ := vals_smp w
  refine ⟨400, ?_⟩
  unfold broadsidelaw3_TupleGets.f
  rw [hl]
  simp only [Option.bind_some]
  rw [show broadsidekeep_Names.f = some nms from rfl]
  simp only [Option.bind_some]
  rw [fo_within n 6 (by omega) (by omega)]
  simp only [Option.bind_some]
  have h7 : (nms.length : Int) = 7 := rfl
  rw [if_pos (by omega), if_pos (by omega), hq, hu]
  simp only [Option.bind_some]
  have hs : rdOf ByteArray.empty nms (n % (6 + 1)) ∈ nms := by
    unfold rdOf
    rw [List.getD_eq_getElem?_getD, List.getElem?_eq_getElem (show (n % (6 + 1)).toNat < nms.length by show _ < 7; omega)]
    exact List.getElem_mem _
  generalize rdOf ByteArray.empty nms (n % (6 + 1)) = s at hs ⊢
  have h5 := hT.len
  have hx5 := putA_le l ⟨s, q⟩
  have hxu := putA_up hT.up ⟨s, q⟩
  rw [put_f l hT.up (by omega) s q]
  simp only [Option.bind_some]
  rw [put_f _ hxu (by omega) s u, put_f l hT.up (by omega) s u]
  simp only [Option.bind_some]
  have hy5 := putA_le l ⟨s, u⟩
  have hyu := putA_up hT.up ⟨s, u⟩
  have hyn : ∀ x ∈ putA l ⟨s, u⟩, x.f0 ∈ nms := fun x hx => by
    rcases (putA_mem hT.up _ _).1 hx with h | h
    · rw [h]; exact hs
    · exact hT.name x h.1
  have hylen := putA_len hT.up s u
  rw [put_twice hT.up s q u, get_char l s (by omega) 400 (by omega)]
  simp only [Option.bind_some]
  have hb : (getR (getA l s)).2.2.2 = (getA l s).isSome := by cases getA l s <;> rfl
  rw [hb]
  refine gets_l0 l l (putA l ⟨s, u⟩) (putA l ⟨s, u⟩) s _ (by omega) (by omega) 200 (by omega) (fun a ha => ?_) (fun k hk => ?_) l.length 0 400 (by omega) (by omega)
  · by_cases e : a.f0 = s
    · exact ⟨u, by rw [e]; exact getA_put hT.up s u, fun h => absurd e h⟩
    · exact ⟨a.f1, getA_put_ne hT.up s u a ha e, fun _ => rfl⟩
  · have hno : getA (putA l ⟨s, u⟩) (⟨#[110, 111, 98, 111, 100, 121]⟩ : ByteArray) = none := getA_none.2 (fun x hx e => by
      have := nms_one _ (hyn x hx)
      rw [e] at this
      exact absurd this (by decide))
    refine ⟨_, _, get_char _ _ (by omega) k (by omega), get_char [] s (by simp) k (by omega), ?_⟩
    rw [hno]
    have hj : ∀ m : Int, m = (if (getA l s).isSome = true then 0 else 1) → broadsidelaw3_TupleGets.j1 k l (putA l ⟨s, u⟩) (putA l ⟨s, u⟩) (getR none).2.2.2 (getR (getA [] s)).2.2.2 m = some true := by
      intro m hm
      obtain ⟨k, rfl⟩ : ∃ q, k = q + 1 := ⟨k - 1, by omega⟩
      rw [broadsidelaw3_TupleGets.j1, same_refl _ (by omega) k (by omega)]
      simp only [Option.bind_some, if_true]
      rw [if_pos ?_]
      · show (if (false : Bool) = true then some false else if (false : Bool) = true then some false else _) = some true
        rw [if_neg (by simp), if_neg (by simp), say_nil k (by omega)]
        simp only [Option.bind_some]
        rw [if_pos (show (⟨#[]⟩ : ByteArray).toList = ([] : List UInt8) from by rw [toList_data]), same_refl [] (by simp) k (by omega)]
        simp only [Option.bind_some, if_true]
        rw [up_fuel (g := fun k => broadsidelaw3_TupleRuns.f k) (fun k => broadsidelaw3_TupleRuns.mono k) runs_true k (by omega)]
        rfl
      · rw [hm, hylen]
        unfold wrap64
        split <;> omega
    split
    · rename_i h; exact hj 0 (by rw [if_pos h])
    · rename_i h; exact hj 1 (by rw [if_neg h])
theorem gets_calls (A0_0 : Option Addr) (c0_0 : Nat) (l0_0 : List Int) (A0_1 : Option Addr) (c0_1 : Nat) (l0_1 : List Int) (a1 a2 a3 : Int) (w : World) (HTAB : Aside0 (Val.Tab w)) (hr0_0 : Kd.C (Kd.int .i64) w A0_0 l0_0.length l0_0) (hc0_0 : l0_0.length ≤ c0_0) (hr0_1 : Kd.C (Kd.int .i64) w A0_1 l0_1.length l0_1) (hc0_1 : l0_1.length ≤ c0_1) :
    Calls Tryz.prog 7 #[.agg #[.slice A0_0 l0_0.length c0_0, .slice A0_1 l0_1.length c0_1], .int .i64 a1, .int .i64 a2, .int .i64 a3] w fun e w' => e = .returned (.bool true) ∧ Below w.heap.size w w' := by
  obtain ⟨k, hk⟩ := gets_true l0_0 l0_1 a1 a2 a3
  exact broadsidelaw3_TupleGets.calls k A0_0 c0_0 l0_0 A0_1 c0_1 l0_1 a1 a2 a3 true w HTAB hr0_0 hc0_0 hr0_1 hc0_1 hk
end Go.Proofs.YtgdieejhglhkcaaGreatDoor.MTup
