import Derived.Test.YtpkdfjlkhfjlcaaDoorVaS0
import Derived.Test.YtpkdfjlkhfjlcaaDoorVaRp
namespace Go.Proofs.YtpkdfjlkhfjlcaaDoor.MVal
open Go.RowKit Go.Proofs.YtpkdfjlkhfjlcaaDoorW.PrintWords Go.Proofs.YtpkdfjlkhfjlcaaDoorW.PrintLast Go.Proofs.YtpkdfjlkhfjlcaaDoorW.PrintMore
attribute [local go_sem] max2_int min2_int max_two min_two max_three min_three max_four min_four   -- for this text's walks alone
set_option linter.unusedVariables false
set_option linter.unusedSimpArgs false


theorem one_slice (S : ByteArray) (i : Nat) (h : i < S.size) (hs : S.size ≤ 15) (w : World) : (Instr.slice 9 (.string S) (some (.int .i64 i)) (some (.int .i64 ((i : Int) + 1))) none).run Tryd.prog w = .ok (.string ⟨#[Val.bt S i]⟩) w := by
  have h0 : (0 : Int) ≤ (i : Int) := by omega
  have h1 : (0 : Int) ≤ (i : Int) + 1 := by omega
  have h2 : (i : Int) ≤ (i : Int) + 1 := by omega
  have h3 : (i : Int) + 1 ≤ (S.size : Int) := by omega
  go_simp
  have h2 : i < S.data.toList.length := by simpa using h
  apply ByteArray.ext
  apply Array.ext'
  simp [ByteArray.data_extract, Val.bt, List.getD_eq_getElem?_getD]
  rw [List.drop_eq_getElem_cons h2]
  simp [Array.getElem?_eq_getElem (show i < S.data.size from by simpa using h)]
theorem esc_len (l : List UInt8) : (Val.esc l).length ≤ 2 * l.length := by
  induction l with
  | nil => simp [Val.esc]
  | cons a l ih =>
    have e : Val.esc (a :: l) = (if Val.spc a then [92, a] else [a]) ++ Val.esc l := by simp [Val.esc]
    rw [e, List.length_append, List.length_cons]
    split
    · simp only [List.length_cons, List.length_nil]; omega
    · simp only [List.length_cons, List.length_nil]; omega
theorem esc_sp (S : ByteArray) (i : Nat) (h : i < S.size) (hs : Val.spc (Val.bt S i) = true) : (⟨#[34]⟩ : ByteArray) ++ (⟨(Val.esc (S.data.toList.take i)).toArray⟩ : ByteArray) ++ ⟨#[92]⟩ ++ ⟨#[Val.bt S i]⟩ = (⟨#[34]⟩ : ByteArray) ++ (⟨(Val.esc (S.data.toList.take (i + 1))).toArray⟩ : ByteArray) := by
  rw [Val.take_bt S i h]
  generalize Val.bt S i = x at hs ⊢
  apply ByteArray.ext
  apply Array.ext'
  simp [Val.esc, hs]
theorem esc_no (S : ByteArray) (i : Nat) (h : i < S.size) (hs : Val.spc (Val.bt S i) = false) : (⟨#[34]⟩ : ByteArray) ++ (⟨(Val.esc (S.data.toList.take i)).toArray⟩ : ByteArray) ++ ⟨#[Val.bt S i]⟩ = (⟨#[34]⟩ : ByteArray) ++ (⟨(Val.esc (S.data.toList.take (i + 1))).toArray⟩ : ByteArray) := by
  rw [Val.take_bt S i h]
  generalize Val.bt S i = x at hs ⊢
  apply ByteArray.ext
  apply Array.ext'
  simp [Val.esc, hs]
theorem esc_end (S : ByteArray) (i : Nat) (h : S.size ≤ i) : (⟨#[34]⟩ : ByteArray) ++ (⟨(Val.esc (S.data.toList.take i)).toArray⟩ : ByteArray) ++ ⟨#[34]⟩ = Val.quote S := by
  rw [List.take_of_length_le (by simpa using h)]
  rfl
theorem X_size (S : ByteArray) (i : Nat) (h : S.size ≤ 12) : ((⟨#[34]⟩ : ByteArray) ++ (⟨(Val.esc (S.data.toList.take i)).toArray⟩ : ByteArray)).size ≤ 40 := by
  have := esc_len (S.data.toList.take i)
  have h2 : (S.data.toList.take i).length ≤ S.size := by rw [List.length_take]; exact Nat.le_trans (Nat.min_le_right _ _) (by rw [Array.length_toList]; exact Nat.le_refl _)
  rw [ByteArray.size_append]
  show 1 + (Val.esc (S.data.toList.take i)).length ≤ 40
  omega
theorem dig_eq (u : Nat) (h : u < 10) : strOfNums [wrap64 (48 + (u : Int)) % 256] = ⟨#[UInt8.ofNat (48 + u)]⟩ := by
  have e : wrap64 (48 + (u : Int)) % 256 = ((48 + u : Nat) : Int) := by unfold wrap64; omega
  rw [e]; rfl
theorem dec_len : ∀ (k u : Nat), u < 10 ^ k → (Go.Lib.decDigits u).length ≤ k + 1 := by
  intro k
  induction k with
  | zero => intro u h; obtain rfl : u = 0 := by simpa using h
            simp [Go.Lib.decDigits]
  | succ k ih =>
    intro u h
    rw [Go.Lib.decDigits]
    split
    · simp
    · have := ih (u / 10) (by rw [Nat.pow_succ] at h; omega)
      simp only [List.length_append, List.length_singleton]; omega
theorem num_dec : ∀ (k u : Nat), k ≤ 40 → (u : Int) ≤ 9223372036854775807 → u < 10 ^ k → broadsidekeep_Num.f (k + 1) u = some (⟨(Go.Lib.decDigits u).toArray⟩ : ByteArray) := by
  intro k
  induction k with
  | zero =>
    intro u hk h1 h2
    obtain rfl : u = 0 := by simpa using h2
    kernel_rfl
  | succ k ih =>
    intro u hk h1 h2
    rw [broadsidekeep_Num.f, if_neg (by omega), Go.Lib.decDigits]
    by_cases h : u < 10
    · rw [if_pos (by omega), dif_pos h, dig_eq u h]
    · rw [if_neg (by omega), dif_neg h]
      have e : wrap64 (Int.tdiv (u : Int) 10) = ((u / 10 : Nat) : Int) := by
        rw [Int.tdiv_eq_ediv_of_nonneg (by omega)]
        unfold wrap64; omega
      have e2 : Int.tmod (u : Int) 10 = ((u % 10 : Nat) : Int) := by
        rw [Int.tmod_eq_emod_of_nonneg (by omega)]; omega
      rw [e, e2, ih (u / 10) (by omega) (by omega) (by rw [Nat.pow_succ] at h2; omega)]
      have hl := dec_len k (u / 10) (by rw [Nat.pow_succ] at h2; omega)
      simp only [Option.bind_some]
      rw [dig_eq (u % 10) (by omega)]
      rw [if_pos ?_]
      · congr 1
      · simp only [ByteArray.size, List.size_toArray, List.length_singleton]; omega
theorem num_itoa (n : Int) (h0 : -4611686018427387904 ≤ n) (h1 : n ≤ 9223372036854775807) : broadsidekeep_Num.f 30 n = some (Val.itoa n) := by
  unfold Val.itoa Go.Lib.itoa
  by_cases h : n < 0
  · rw [if_pos h, broadsidekeep_Num.f, if_pos h]
    have e : wrap64 (-n) = (n.natAbs : Int) := by unfold wrap64; omega
    rw [e, num_dec 28 n.natAbs (by omega) (by omega) (by omega)]
    simp only [Option.bind_some]
    rw [if_pos ?_]
    · congr 1
    · have hl := dec_len 28 n.natAbs (by omega)
      simp only [ByteArray.size, List.size_toArray]; omega
  · rw [if_neg h]
    have e : n = (n.toNat : Int) := by omega
    conv => lhs; rw [e]
    exact num_dec 29 n.toNat (by omega) (by omega) (by omega)


set_option maxRecDepth 1000000 in
set_option maxHeartbeats 3200000 in
theorem says_a (n : Int) (s : ByteArray) (w : World) (HTAB : Aside0 (Val.Tab w)) (h0 : -9223372036854775808 ≤ n) (h1 : n ≤ 9223372036854775807) (hlo : n < -4611686018427387904) :
    Calls Tryd.prog 11 #[.int .i64 n, .string s] w fun e w' => e = .returned (.bool true) ∧ Below w.heap.size w w' := by
  have hu51 := Tryd.underlying51
  have HB := Aside0.mk (Below.refl w.heap.size w)
  have hnb : decide (n < -4611686018427387904) = true := by simpa using hlo
  clear hlo
  obtain ⟨m, hm⟩ : ∃ m : Int, (if 12 < (s.size : Int) then 12 else (s.size : Int)) = m := ⟨_, rfl⟩
  have hm0 : 0 ≤ m := by rw [← hm]; split <;> omega
  have hm1 : m ≤ 12 := by rw [← hm]; split <;> omega
  have hm2 : m ≤ (s.size : Int) := by rw [← hm]; split <;> omega
  obtain ⟨S, hSd⟩ : ∃ S, s.extract 0 m.toNat = S := ⟨_, rfl⟩
  have hS0 : S.size ≤ 12 := by rw [← hSd]; simp [ByteArray.size_extract]; omega
  have hcut : ∀ w, (Instr.slice 9 (.string s) none (some (.int .i64 m)) none).run Tryd.prog w = .ok (.string S) w := by
    intro w
    have hm0c := decide_eq_true hm0
    have hm2c := decide_eq_true hm2
    rw [← hSd]
    have hm0b := eq_true hm0
    have hm2b := eq_true hm2
    go_simp
  have hS1 := Aside0.mk hS0
  have hsay : Aside0 (value_Say.f true 0 S = some (Val.quote S)) := ⟨by unfold value_Say.f; rw [if_pos rfl, if_pos (by omega)]⟩
  have hr1 : Aside0 (value_Right.f true 0 S = some true) := ⟨by unfold value_Right.f; rw [if_pos rfl, if_pos rfl, decide_eq_true (by omega)]⟩
  have hr2 : Aside0 (value_Right.f true 0 (S ++ ⟨#[49, 50, 51, 52, 53, 54, 55, 56, 57, 48, 49, 50, 51]⟩) = some false) := ⟨by
    unfold value_Right.f; rw [if_pos rfl, if_pos rfl, decide_eq_false ?_]
    have : (S ++ ⟨#[49, 50, 51, 52, 53, 54, 55, 56, 57, 48, 49, 50, 51]⟩ : ByteArray).size = S.size + 13 := by rw [ByteArray.size_append]; rfl
    omega⟩
  clear hS0
  clear hm0 hm1 hm2 hSd
  go_enter Tryd.func11, Tryd.ntmps11
  go_wp2_with (first | ((with_reducible refine gate_callee (f := 28) rfl ?_); refine goesL_ (some 14) rfl rfl Tryd.func28 (by kernel_rfl) rfl #[.string S] rfl (by (try simp only [List.map_toArray, List.map_cons, List.map_nil]); first | done | rfl) ?_; with_reducible refine (value_Text.calls S _ _ _ _ rfl).mono ?_; rintro e w9 ⟨rfl, hb⟩; refine ⟨_, rfl, ?_⟩; have n0_ := Aside0.mk (below_step (by repeat (first | (with_reducible first | exact HB.out | apply below_alloc | apply pw_below_drewN | apply below_drew1) | exact HB.out)) hb); clear HB; have HB := n0_; clear n0_; clear hb) | (with_reducible refine (value_Text.calls S _ _ _ _ rfl).mono ?_; rintro e w9 ⟨rfl, hb⟩; have n0_ := Aside0.mk (below_step (by repeat (first | (with_reducible first | exact HB.out | apply below_alloc | apply pw_below_drewN | apply below_drew1) | exact HB.out)) hb); clear HB; have HB := n0_; clear n0_; clear hb) | ((with_reducible refine gate_callee (f := 29) rfl ?_); refine goesL_ (some 15) rfl rfl Tryd.func29 (by kernel_rfl) rfl #[.agg #[.bool true, .int .i64 0, .string S]] rfl (by (try simp only [List.map_toArray, List.map_cons, List.map_nil]); first | done | rfl) ?_; with_reducible refine (value_Say.calls true 0 S (Val.quote S) _ (Val.tb HTAB (by repeat (first | (with_reducible first | exact HB.out | apply below_alloc | apply pw_below_drewN | apply below_drew1) | exact HB.out))) hsay.out).mono ?_; rintro e w9 ⟨rfl, hb⟩; refine ⟨_, rfl, ?_⟩; have n0_ := Aside0.mk (below_step (by repeat (first | (with_reducible first | exact HB.out | apply below_alloc | apply pw_below_drewN | apply below_drew1) | exact HB.out)) hb); clear HB; have HB := n0_; clear n0_; clear hb) | (with_reducible refine (value_Say.calls true 0 S (Val.quote S) _ (Val.tb HTAB (by repeat (first | (with_reducible first | exact HB.out | apply below_alloc | apply pw_below_drewN | apply below_drew1) | exact HB.out))) hsay.out).mono ?_; rintro e w9 ⟨rfl, hb⟩; have n0_ := Aside0.mk (below_step (by repeat (first | (with_reducible first | exact HB.out | apply below_alloc | apply pw_below_drewN | apply below_drew1) | exact HB.out)) hb); clear HB; have HB := n0_; clear n0_; clear hb))
  go_loopg [6, 18] 20 (fun kq v6 v18 w' => ∃ i : Nat, v6 = .string ((⟨#[34]⟩ : ByteArray) ++ (⟨(Val.esc (S.data.toList.take i)).toArray⟩ : ByteArray)) ∧ v18 = .int .i64 (i : Int) ∧ Aside0 (i ≤ S.size ∧ S.size < kq + i) ∧ Aside0 (Below w.heap.size w w'))
  case atStart => exact ⟨0, (by simp [Val.esc]; rfl), rfl, ⟨Nat.zero_le _, by have := hS1.out; omega⟩, ⟨by repeat (first | (with_reducible first | exact HB.out | apply below_alloc | apply pw_below_drewN | apply below_drew1) | exact HB.out)⟩⟩
  case round =>
    obtain ⟨i, rfl, rfl, HI, HB⟩ := hrel
    have hS := hS1.out
    obtain ⟨k1, rfl⟩ : ∃ k1, gk = k1 + 1 := ⟨gk - 1, by have := HI.out; omega⟩
    by_cases hi : i < S.size
    · have hic : decide ((i : Int) < (S.size : Int)) = true := decide_eq_true (by omega)
      have hic2 : decide (i < S.size) = true := decide_eq_true (by omega)
      have hX1 := Aside0.mk (X_size S i (by omega))
      have hix := fun w => Val.index_bt S i hi w
      have hsl := fun w => one_slice S i hi (by omega) w
      have hw1 : IntKind.i64.wrap ((i : Int) + 1) = (i : Int) + 1 := by rw [i64_w]; unfold wrap64; omega
      have hw2 : wrap64 ((i : Int) + 1) = (i : Int) + 1 := by unfold wrap64; omega
      have hsp := Aside0.mk (fun h => esc_sp S i hi h)
      have hno := Aside0.mk (fun h => esc_no S i hi h)
      have hdef : Val.spc (Val.bt S i) = (Val.bt S i == 34 || Val.bt S i == 92) := by first | rfl | simp [Val.spc]
      have HI2 := Aside0.mk (show i + 1 ≤ S.size from hi)
      clear hS hi
      obtain ⟨X, hX⟩ : ∃ X, (⟨#[34]⟩ : ByteArray) ++ (⟨(Val.esc (S.data.toList.take i)).toArray⟩ : ByteArray) = X := ⟨_, rfl⟩
      rw [hX] at hX1 ⊢
      have hz1 : (X.size + 1 ≤ 9223372036854775807) = True := eq_true (by have := hX1.out; omega)
      have hz1n : (9223372036854775807 < X.size + 1) = False := eq_false (by have := hX1.out; omega)
      have hz2n : (9223372036854775807 < X.size + 1 + 1) = False := eq_false (by have := hX1.out; omega)
      have hz3n : (9223372036854775807 < (X ++ ⟨#[92]⟩).size + 1) = False := eq_false (by have := hX1.out; rw [ByteArray.size_append]; show ¬ (9223372036854775807 < X.size + 1 + 1); omega)
      have hz2 : (X.size + 1 + 1 ≤ 9223372036854775807) = True := eq_true (by have := hX1.out; omega)
      have hsp1 : Aside0 (Val.spc (Val.bt S i) = true → X ++ ⟨#[92]⟩ ++ ⟨#[Val.bt S i]⟩ = (⟨#[34]⟩ : ByteArray) ++ (⟨(Val.esc (S.data.toList.take (i + 1))).toArray⟩ : ByteArray)) := ⟨by rw [← hX]; exact hsp.out⟩
      have hno1 : Aside0 (Val.spc (Val.bt S i) = false → X ++ ⟨#[Val.bt S i]⟩ = (⟨#[34]⟩ : ByteArray) ++ (⟨(Val.esc (S.data.toList.take (i + 1))).toArray⟩ : ByteArray)) := ⟨by rw [← hX]; exact hno.out⟩
      clear hsp hno hX
      generalize Val.bt S i = x at hix hsl hsp1 hno1 hdef
      have hz3 : ((X ++ ⟨#[92]⟩).size + (⟨#[x]⟩ : ByteArray).size ≤ 9223372036854775807) = True := eq_true (by have := hX1.out; rw [ByteArray.size_append]; show X.size + 1 + 1 ≤ _; omega)
      have hz4 : (X.size + (⟨#[x]⟩ : ByteArray).size ≤ 9223372036854775807) = True := eq_true (by have := hX1.out; show X.size + 1 ≤ _; omega)
      by_cases h34 : x = 34
      · obtain rfl := h34
        have hsp2 := Aside0.mk (hsp1.out (by rw [hdef]; rfl))
        clear hdef hsp1 hno1
        go_wp2
        go_roundg k1
        case measure => omega
        case rel => exact ⟨i + 1, (congrArg Value.string hsp2.out), rfl, ⟨by have := HI.out; have := HI2.out; omega⟩, ⟨by repeat (first | (with_reducible first | exact HB.out | apply below_alloc | apply pw_below_drewN | apply below_drew1) | exact HB.out)⟩⟩
      · have e34 : (x == 34) = false := by simpa using h34
        have e34' : ((x.toNat : Int) == 34) = false := by
          rw [beq_eq_false_iff_ne]; intro h; exact h34 (UInt8.toNat_inj.1 (by simpa using (by omega : x.toNat = 34)))
        by_cases h92 : x = 92
        · obtain rfl := h92
          have hsp2 := Aside0.mk (hsp1.out (by rw [hdef]; rfl))
          clear hdef hsp1 hno1
          go_wp2
          go_roundg k1
          case measure => omega
          case rel => exact ⟨i + 1, (congrArg Value.string hsp2.out), rfl, ⟨by have := HI.out; have := HI2.out; omega⟩, ⟨by repeat (first | (with_reducible first | exact HB.out | apply below_alloc | apply pw_below_drewN | apply below_drew1) | exact HB.out)⟩⟩
        · have e92 : (x == 92) = false := by simpa using h92
          have e92' : ((x.toNat : Int) == 92) = false := by
            rw [beq_eq_false_iff_ne]; intro h; exact h92 (UInt8.toNat_inj.1 (by simpa using (by omega : x.toNat = 92)))
          have hno2 := Aside0.mk (hno1.out (by rw [hdef, e34, e92]; rfl))
          clear hdef hsp1 hno1
          go_wp2
          go_roundg k1
          case measure => omega
          case rel => exact ⟨i + 1, (congrArg Value.string hno2.out), rfl, ⟨by have := HI.out; have := HI2.out; omega⟩, ⟨by repeat (first | (with_reducible first | exact HB.out | apply below_alloc | apply pw_below_drewN | apply below_drew1) | exact HB.out)⟩⟩
    · have hic : decide ((i : Int) < (S.size : Int)) = false := decide_eq_false (by omega)
      have hic2 : decide (i < S.size) = false := decide_eq_false (by omega)
      have hX1 := Aside0.mk (X_size S i (by omega))
      have hend := Aside0.mk (esc_end S i (by omega))
      clear hS hi
      obtain ⟨X, hX⟩ : ∃ X, (⟨#[34]⟩ : ByteArray) ++ (⟨(Val.esc (S.data.toList.take i)).toArray⟩ : ByteArray) = X := ⟨_, rfl⟩
      rw [hX] at hX1 hend ⊢
      clear hX
      have hz1 : (X.size + 1 ≤ 9223372036854775807) = True := eq_true (by have := hX1.out; omega)
      have hz1n : (9223372036854775807 < X.size + 1) = False := eq_false (by have := hX1.out; omega)
      have hz5n : (9223372036854775807 < S.size + 13) = False := eq_false (by have := hS1.out; omega)
      have hE : ((Val.quote S).toList == (X ++ ⟨#[34]⟩).toList) = true := by rw [hend.out]; simp
      have hz5 : (S.size + 13 ≤ 9223372036854775807) = True := eq_true (by have := hS1.out; omega)
      go_wp2_with (first | ((with_reducible refine gate_callee (f := 27) rfl ?_); refine goesL_ (some 50) rfl rfl Tryd.func27 (by kernel_rfl) rfl #[.int .i64 n] rfl (by (try simp only [List.map_toArray, List.map_cons, List.map_nil]); first | done | rfl) ?_; with_reducible refine (value_Number.calls n _ _ _ _ rfl).mono ?_; rintro e w9 ⟨rfl, hb⟩; refine ⟨_, rfl, ?_⟩; have n0_ := Aside0.mk (below_step (by repeat (first | (with_reducible first | exact HB.out | apply below_alloc | apply pw_below_drewN | apply below_drew1) | exact HB.out)) hb); clear HB; have HB := n0_; clear n0_; clear hb) | (with_reducible refine (value_Number.calls n _ _ _ _ rfl).mono ?_; rintro e w9 ⟨rfl, hb⟩; have n0_ := Aside0.mk (below_step (by repeat (first | (with_reducible first | exact HB.out | apply below_alloc | apply pw_below_drewN | apply below_drew1) | exact HB.out)) hb); clear HB; have HB := n0_; clear n0_; clear hb) | ((with_reducible refine gate_callee (f := 29) rfl ?_); refine goesL_ (some 51) rfl rfl Tryd.func29 (by kernel_rfl) rfl #[.agg #[.bool false, .int .i64 n, .string ⟨#[]⟩]] rfl (by (try simp only [List.map_toArray, List.map_cons, List.map_nil]); first | done | rfl) ?_; with_reducible refine (value_Say.calls false n ⟨#[]⟩ (Val.itoa n) _ (Val.tb HTAB (by repeat (first | (with_reducible first | exact HB.out | apply below_alloc | apply pw_below_drewN | apply below_drew1) | exact HB.out))) hsn.out).mono ?_; rintro e w9 ⟨rfl, hb⟩; refine ⟨_, rfl, ?_⟩; have n0_ := Aside0.mk (below_step (by repeat (first | (with_reducible first | exact HB.out | apply below_alloc | apply pw_below_drewN | apply below_drew1) | exact HB.out)) hb); clear HB; have HB := n0_; clear n0_; clear hb) | (with_reducible refine (value_Say.calls false n ⟨#[]⟩ (Val.itoa n) _ (Val.tb HTAB (by repeat (first | (with_reducible first | exact HB.out | apply below_alloc | apply pw_below_drewN | apply below_drew1) | exact HB.out))) hsn.out).mono ?_; rintro e w9 ⟨rfl, hb⟩; have n0_ := Aside0.mk (below_step (by repeat (first | (with_reducible first | exact HB.out | apply below_alloc | apply pw_below_drewN | apply below_drew1) | exact HB.out)) hb); clear HB; have HB := n0_; clear n0_; clear hb) | ((with_reducible refine gate_callee (f := 20) rfl ?_); refine goesL_ (some 53) rfl rfl Tryd.func20 (by kernel_rfl) rfl #[.int .i64 n] rfl (by (try simp only [List.map_toArray, List.map_cons, List.map_nil]); first | done | rfl) ?_; with_reducible refine (broadsidekeep_Num.calls 30 n (Val.itoa n) _ hnum.out).mono ?_; rintro e w9 ⟨rfl, hb⟩; refine ⟨_, rfl, ?_⟩; have n0_ := Aside0.mk (below_step (by repeat (first | (with_reducible first | exact HB.out | apply below_alloc | apply pw_below_drewN | apply below_drew1) | exact HB.out)) hb); clear HB; have HB := n0_; clear n0_; clear hb) | (with_reducible refine (broadsidekeep_Num.calls 30 n (Val.itoa n) _ hnum.out).mono ?_; rintro e w9 ⟨rfl, hb⟩; have n0_ := Aside0.mk (below_step (by repeat (first | (with_reducible first | exact HB.out | apply below_alloc | apply pw_below_drewN | apply below_drew1) | exact HB.out)) hb); clear HB; have HB := n0_; clear n0_; clear hb) | ((with_reducible refine gate_callee (f := 28) rfl ?_); refine goesL_ (some 59) rfl rfl Tryd.func28 (by kernel_rfl) rfl #[.string S] rfl (by (try simp only [List.map_toArray, List.map_cons, List.map_nil]); first | done | rfl) ?_; with_reducible refine (value_Text.calls S _ _ _ _ rfl).mono ?_; rintro e w9 ⟨rfl, hb⟩; refine ⟨_, rfl, ?_⟩; have n0_ := Aside0.mk (below_step (by repeat (first | (with_reducible first | exact HB.out | apply below_alloc | apply pw_below_drewN | apply below_drew1) | exact HB.out)) hb); clear HB; have HB := n0_; clear n0_; clear hb) | (with_reducible refine (value_Text.calls S _ _ _ _ rfl).mono ?_; rintro e w9 ⟨rfl, hb⟩; have n0_ := Aside0.mk (below_step (by repeat (first | (with_reducible first | exact HB.out | apply below_alloc | apply pw_below_drewN | apply below_drew1) | exact HB.out)) hb); clear HB; have HB := n0_; clear n0_; clear hb) | ((with_reducible refine gate_callee (f := 30) rfl ?_); refine goesL_ (some 60) rfl rfl Tryd.func30 (by kernel_rfl) rfl #[.agg #[.bool true, .int .i64 0, .string S]] rfl (by (try simp only [List.map_toArray, List.map_cons, List.map_nil]); first | done | rfl) ?_; with_reducible refine (value_Right.calls true 0 S true _ hr1.out).mono ?_; rintro e w9 ⟨rfl, hb⟩; refine ⟨_, rfl, ?_⟩; have n0_ := Aside0.mk (below_step (by repeat (first | (with_reducible first | exact HB.out | apply below_alloc | apply pw_below_drewN | apply below_drew1) | exact HB.out)) hb); clear HB; have HB := n0_; clear n0_; clear hb) | (with_reducible refine (value_Right.calls true 0 S true _ hr1.out).mono ?_; rintro e w9 ⟨rfl, hb⟩; have n0_ := Aside0.mk (below_step (by repeat (first | (with_reducible first | exact HB.out | apply below_alloc | apply pw_below_drewN | apply below_drew1) | exact HB.out)) hb); clear HB; have HB := n0_; clear n0_; clear hb) | ((with_reducible refine gate_callee (f := 28) rfl ?_); refine goesL_ (some 65) rfl rfl Tryd.func28 (by kernel_rfl) rfl #[.string (S ++ ⟨#[49, 50, 51, 52, 53, 54, 55, 56, 57, 48, 49, 50, 51]⟩)] rfl (by (try simp only [List.map_toArray, List.map_cons, List.map_nil]); first | done | rfl) ?_; with_reducible refine (value_Text.calls (S ++ ⟨#[49, 50, 51, 52, 53, 54, 55, 56, 57, 48, 49, 50, 51]⟩) _ _ _ _ rfl).mono ?_; rintro e w9 ⟨rfl, hb⟩; refine ⟨_, rfl, ?_⟩; have n0_ := Aside0.mk (below_step (by repeat (first | (with_reducible first | exact HB.out | apply below_alloc | apply pw_below_drewN | apply below_drew1) | exact HB.out)) hb); clear HB; have HB := n0_; clear n0_; clear hb) | (with_reducible refine (value_Text.calls (S ++ ⟨#[49, 50, 51, 52, 53, 54, 55, 56, 57, 48, 49, 50, 51]⟩) _ _ _ _ rfl).mono ?_; rintro e w9 ⟨rfl, hb⟩; have n0_ := Aside0.mk (below_step (by repeat (first | (with_reducible first | exact HB.out | apply below_alloc | apply pw_below_drewN | apply below_drew1) | exact HB.out)) hb); clear HB; have HB := n0_; clear n0_; clear hb) | ((with_reducible refine gate_callee (f := 30) rfl ?_); refine goesL_ (some 66) rfl rfl Tryd.func30 (by kernel_rfl) rfl #[.agg #[.bool true, .int .i64 0, .string (S ++ ⟨#[49, 50, 51, 52, 53, 54, 55, 56, 57, 48, 49, 50, 51]⟩)]] rfl (by (try simp only [List.map_toArray, List.map_cons, List.map_nil]); first | done | rfl) ?_; with_reducible refine (value_Right.calls true 0 (S ++ ⟨#[49, 50, 51, 52, 53, 54, 55, 56, 57, 48, 49, 50, 51]⟩) false _ hr2.out).mono ?_; rintro e w9 ⟨rfl, hb⟩; refine ⟨_, rfl, ?_⟩; have n0_ := Aside0.mk (below_step (by repeat (first | (with_reducible first | exact HB.out | apply below_alloc | apply pw_below_drewN | apply below_drew1) | exact HB.out)) hb); clear HB; have HB := n0_; clear n0_; clear hb) | (with_reducible refine (value_Right.calls true 0 (S ++ ⟨#[49, 50, 51, 52, 53, 54, 55, 56, 57, 48, 49, 50, 51]⟩) false _ hr2.out).mono ?_; rintro e w9 ⟨rfl, hb⟩; have n0_ := Aside0.mk (below_step (by repeat (first | (with_reducible first | exact HB.out | apply below_alloc | apply pw_below_drewN | apply below_drew1) | exact HB.out)) hb); clear HB; have HB := n0_; clear n0_; clear hb) | ((with_reducible refine gate_callee (f := 30) rfl ?_); refine goesL_ (some 71) rfl rfl Tryd.func30 (by kernel_rfl) rfl #[.agg #[.bool true, .int .i64 1, .string ⟨#[]⟩]] rfl (by (try simp only [List.map_toArray, List.map_cons, List.map_nil]); first | done | rfl) ?_; with_reducible refine (value_Right.calls true 1 ⟨#[]⟩ false _ rfl).mono ?_; rintro e w9 ⟨rfl, hb⟩; refine ⟨_, rfl, ?_⟩; have n0_ := Aside0.mk (below_step (by repeat (first | (with_reducible first | exact HB.out | apply below_alloc | apply pw_below_drewN | apply below_drew1) | exact HB.out)) hb); clear HB; have HB := n0_; clear n0_; clear hb) | (with_reducible refine (value_Right.calls true 1 ⟨#[]⟩ false _ rfl).mono ?_; rintro e w9 ⟨rfl, hb⟩; have n0_ := Aside0.mk (below_step (by repeat (first | (with_reducible first | exact HB.out | apply below_alloc | apply pw_below_drewN | apply below_drew1) | exact HB.out)) hb); clear HB; have HB := n0_; clear n0_; clear hb) | ((with_reducible refine gate_callee (f := 7) rfl ?_); refine goesL_ (some 75) rfl rfl Tryd.func7 (by kernel_rfl) rfl #[] rfl (by (try simp only [List.map_toArray, List.map_cons, List.map_nil]); first | done | rfl) ?_; with_reducible refine (runs_calls _ (Val.tb HTAB (by repeat (first | (with_reducible first | exact HB.out | apply below_alloc | apply pw_below_drewN | apply below_drew1) | exact HB.out)))).mono ?_; rintro e w9 ⟨rfl, hb⟩; refine ⟨_, rfl, ?_⟩; have n0_ := Aside0.mk (below_step (by repeat (first | (with_reducible first | exact HB.out | apply below_alloc | apply pw_below_drewN | apply below_drew1) | exact HB.out)) hb); clear HB; have HB := n0_; clear n0_; clear hb) | (with_reducible refine (runs_calls _ (Val.tb HTAB (by repeat (first | (with_reducible first | exact HB.out | apply below_alloc | apply pw_below_drewN | apply below_drew1) | exact HB.out)))).mono ?_; rintro e w9 ⟨rfl, hb⟩; have n0_ := Aside0.mk (below_step (by repeat (first | (with_reducible first | exact HB.out | apply below_alloc | apply pw_below_drewN | apply below_drew1) | exact HB.out)) hb); clear HB; have HB := n0_; clear n0_; clear hb))
      go_ret
      exact ⟨rfl, by repeat (first | (with_reducible first | exact HB.out | apply below_alloc | apply pw_below_drewN | apply below_drew1) | exact HB.out)⟩

set_option maxRecDepth 1000000 in
set_option maxHeartbeats 3200000 in
theorem says_b (n : Int) (s : ByteArray) (w : World) (HTAB : Aside0 (Val.Tab w)) (h0 : -9223372036854775808 ≤ n) (h1 : n ≤ 9223372036854775807) (hlo : -4611686018427387904 ≤ n) :
    Calls Tryd.prog 11 #[.int .i64 n, .string s] w fun e w' => e = .returned (.bool true) ∧ Below w.heap.size w w' := by
  have hu51 := Tryd.underlying51
  have HB := Aside0.mk (Below.refl w.heap.size w)
  have hnb : decide (n < -4611686018427387904) = false := by simpa using hlo
  have hnum := Aside0.mk (num_itoa n hlo h1)
  have hsn : Aside0 (value_Say.f false n ⟨#[]⟩ = some (Val.itoa n)) := ⟨by unfold value_Say.f; rw [if_neg (by simp), if_pos h0, if_pos h1]⟩
  have hEn : ((Val.itoa n).toList == (Val.itoa n).toList) = true := by simp
  clear hlo
  obtain ⟨m, hm⟩ : ∃ m : Int, (if 12 < (s.size : Int) then 12 else (s.size : Int)) = m := ⟨_, rfl⟩
  have hm0 : 0 ≤ m := by rw [← hm]; split <;> omega
  have hm1 : m ≤ 12 := by rw [← hm]; split <;> omega
  have hm2 : m ≤ (s.size : Int) := by rw [← hm]; split <;> omega
  obtain ⟨S, hSd⟩ : ∃ S, s.extract 0 m.toNat = S := ⟨_, rfl⟩
  have hS0 : S.size ≤ 12 := by rw [← hSd]; simp [ByteArray.size_extract]; omega
  have hcut : ∀ w, (Instr.slice 9 (.string s) none (some (.int .i64 m)) none).run Tryd.prog w = .ok (.string S) w := by
    intro w
    have hm0c := decide_eq_true hm0
    have hm2c := decide_eq_true hm2
    rw [← hSd]
    have hm0b := eq_true hm0
    have hm2b := eq_true hm2
    go_simp
  have hS1 := Aside0.mk hS0
  have hsay : Aside0 (value_Say.f true 0 S = some (Val.quote S)) := ⟨by unfold value_Say.f; rw [if_pos rfl, if_pos (by omega)]⟩
  have hr1 : Aside0 (value_Right.f true 0 S = some true) := ⟨by unfold value_Right.f; rw [if_pos rfl, if_pos rfl, decide_eq_true (by omega)]⟩
  have hr2 : Aside0 (value_Right.f true 0 (S ++ ⟨#[49, 50, 51, 52, 53, 54, 55, 56, 57, 48, 49, 50, 51]⟩) = some false) := ⟨by
    unfold value_Right.f; rw [if_pos rfl, if_pos rfl, decide_eq_false ?_]
    have : (S ++ ⟨#[49, 50, 51, 52, 53, 54, 55, 56, 57, 48, 49, 50, 51]⟩ : ByteArray).size = S.size + 13 := by rw [ByteArray.size_append]; rfl
    omega⟩
  clear hS0
  clear hm0 hm1 hm2 hSd
  go_enter Tryd.func11, Tryd.ntmps11
  go_wp2_with (first | ((with_reducible refine gate_callee (f := 28) rfl ?_); refine goesL_ (some 14) rfl rfl Tryd.func28 (by kernel_rfl) rfl #[.string S] rfl (by (try simp only [List.map_toArray, List.map_cons, List.map_nil]); first | done | rfl) ?_; with_reducible refine (value_Text.calls S _ _ _ _ rfl).mono ?_; rintro e w9 ⟨rfl, hb⟩; refine ⟨_, rfl, ?_⟩; have n0_ := Aside0.mk (below_step (by repeat (first | (with_reducible first | exact HB.out | apply below_alloc | apply pw_below_drewN | apply below_drew1) | exact HB.out)) hb); clear HB; have HB := n0_; clear n0_; clear hb) | (with_reducible refine (value_Text.calls S _ _ _ _ rfl).mono ?_; rintro e w9 ⟨rfl, hb⟩; have n0_ := Aside0.mk (below_step (by repeat (first | (with_reducible first | exact HB.out | apply below_alloc | apply pw_below_drewN | apply below_drew1) | exact HB.out)) hb); clear HB; have HB := n0_; clear n0_; clear hb) | ((with_reducible refine gate_callee (f := 29) rfl ?_); refine goesL_ (some 15) rfl rfl Tryd.func29 (by kernel_rfl) rfl #[.agg #[.bool true, .int .i64 0, .string S]] rfl (by (try simp only [List.map_toArray, List.map_cons, List.map_nil]); first | done | rfl) ?_; with_reducible refine (value_Say.calls true 0 S (Val.quote S) _ (Val.tb HTAB (by repeat (first | (with_reducible first | exact HB.out | apply below_alloc | apply pw_below_drewN | apply below_drew1) | exact HB.out))) hsay.out).mono ?_; rintro e w9 ⟨rfl, hb⟩; refine ⟨_, rfl, ?_⟩; have n0_ := Aside0.mk (below_step (by repeat (first | (with_reducible first | exact HB.out | apply below_alloc | apply pw_below_drewN | apply below_drew1) | exact HB.out)) hb); clear HB; have HB := n0_; clear n0_; clear hb) | (with_reducible refine (value_Say.calls true 0 S (Val.quote S) _ (Val.tb HTAB (by repeat (first | (with_reducible first | exact HB.out | apply below_alloc | apply pw_below_drewN | apply below_drew1) | exact HB.out))) hsay.out).mono ?_; rintro e w9 ⟨rfl, hb⟩; have n0_ := Aside0.mk (below_step (by repeat (first | (with_reducible first | exact HB.out | apply below_alloc | apply pw_below_drewN | apply below_drew1) | exact HB.out)) hb); clear HB; have HB := n0_; clear n0_; clear hb))
  go_loopg [6, 18] 20 (fun kq v6 v18 w' => ∃ i : Nat, v6 = .string ((⟨#[34]⟩ : ByteArray) ++ (⟨(Val.esc (S.data.toList.take i)).toArray⟩ : ByteArray)) ∧ v18 = .int .i64 (i : Int) ∧ Aside0 (i ≤ S.size ∧ S.size < kq + i) ∧ Aside0 (Below w.heap.size w w'))
  case atStart => exact ⟨0, (by simp [Val.esc]; rfl), rfl, ⟨Nat.zero_le _, by have := hS1.out; omega⟩, ⟨by repeat (first | (with_reducible first | exact HB.out | apply below_alloc | apply pw_below_drewN | apply below_drew1) | exact HB.out)⟩⟩
  case round =>
    obtain ⟨i, rfl, rfl, HI, HB⟩ := hrel
    have hS := hS1.out
    obtain ⟨k1, rfl⟩ : ∃ k1, gk = k1 + 1 := ⟨gk - 1, by have := HI.out; omega⟩
    by_cases hi : i < S.size
    · have hic : decide ((i : Int) < (S.size : Int)) = true := decide_eq_true (by omega)
      have hic2 : decide (i < S.size) = true := decide_eq_true (by omega)
      have hX1 := Aside0.mk (X_size S i (by omega))
      have hix := fun w => Val.index_bt S i hi w
      have hsl := fun w => one_slice S i hi (by omega) w
      have hw1 : IntKind.i64.wrap ((i : Int) + 1) = (i : Int) + 1 := by rw [i64_w]; unfold wrap64; omega
      have hw2 : wrap64 ((i : Int) + 1) = (i : Int) + 1 := by unfold wrap64; omega
      have hsp := Aside0.mk (fun h => esc_sp S i hi h)
      have hno := Aside0.mk (fun h => esc_no S i hi h)
      have hdef : Val.spc (Val.bt S i) = (Val.bt S i == 34 || Val.bt S i == 92) := by first | rfl | simp [Val.spc]
      have HI2 := Aside0.mk (show i + 1 ≤ S.size from hi)
      clear hS hi
      obtain ⟨X, hX⟩ : ∃ X, (⟨#[34]⟩ : ByteArray) ++ (⟨(Val.esc (S.data.toList.take i)).toArray⟩ : ByteArray) = X := ⟨_, rfl⟩
      rw [hX] at hX1 ⊢
      have hz1 : (X.size + 1 ≤ 9223372036854775807) = True := eq_true (by have := hX1.out; omega)
      have hz1n : (9223372036854775807 < X.size + 1) = False := eq_false (by have := hX1.out; omega)
      have hz2n : (9223372036854775807 < X.size + 1 + 1) = False := eq_false (by have := hX1.out; omega)
      have hz3n : (9223372036854775807 < (X ++ ⟨#[92]⟩).size + 1) = False := eq_false (by have := hX1.out; rw [ByteArray.size_append]; show ¬ (9223372036854775807 < X.size + 1 + 1); omega)
      have hz2 : (X.size + 1 + 1 ≤ 9223372036854775807) = True := eq_true (by have := hX1.out; omega)
      have hsp1 : Aside0 (Val.spc (Val.bt S i) = true → X ++ ⟨#[92]⟩ ++ ⟨#[Val.bt S i]⟩ = (⟨#[34]⟩ : ByteArray) ++ (⟨(Val.esc (S.data.toList.take (i + 1))).toArray⟩ : ByteArray)) := ⟨by rw [← hX]; exact hsp.out⟩
      have hno1 : Aside0 (Val.spc (Val.bt S i) = false → X ++ ⟨#[Val.bt S i]⟩ = (⟨#[34]⟩ : ByteArray) ++ (⟨(Val.esc (S.data.toList.take (i + 1))).toArray⟩ : ByteArray)) := ⟨by rw [← hX]; exact hno.out⟩
      clear hsp hno hX
      generalize Val.bt S i = x at hix hsl hsp1 hno1 hdef
      have hz3 : ((X ++ ⟨#[92]⟩).size + (⟨#[x]⟩ : ByteArray).size ≤ 9223372036854775807) = True := eq_true (by have := hX1.out; rw [ByteArray.size_append]; show X.size + 1 + 1 ≤ _; omega)
      have hz4 : (X.size + (⟨#[x]⟩ : ByteArray).size ≤ 9223372036854775807) = True := eq_true (by have := hX1.out; show X.size + 1 ≤ _; omega)
      by_cases h34 : x = 34
      · obtain rfl := h34
        have hsp2 := Aside0.mk (hsp1.out (by rw [hdef]; rfl))
        clear hdef hsp1 hno1
        go_wp2
        go_roundg k1
        case measure => omega
        case rel => exact ⟨i + 1, (congrArg Value.string hsp2.out), rfl, ⟨by have := HI.out; have := HI2.out; omega⟩, ⟨by repeat (first | (with_reducible first | exact HB.out | apply below_alloc | apply pw_below_drewN | apply below_drew1) | exact HB.out)⟩⟩
      · have e34 : (x == 34) = false := by simpa using h34
        have e34' : ((x.toNat : Int) == 34) = false := by
          rw [beq_eq_false_iff_ne]; intro h; exact h34 (UInt8.toNat_inj.1 (by simpa using (by omega : x.toNat = 34)))
        by_cases h92 : x = 92
        · obtain rfl := h92
          have hsp2 := Aside0.mk (hsp1.out (by rw [hdef]; rfl))
          clear hdef hsp1 hno1
          go_wp2
          go_roundg k1
          case measure => omega
          case rel => exact ⟨i + 1, (congrArg Value.string hsp2.out), rfl, ⟨by have := HI.out; have := HI2.out; omega⟩, ⟨by repeat (first | (with_reducible first | exact HB.out | apply below_alloc | apply pw_below_drewN | apply below_drew1) | exact HB.out)⟩⟩
        · have e92 : (x == 92) = false := by simpa using h92
          have e92' : ((x.toNat : Int) == 92) = false := by
            rw [beq_eq_false_iff_ne]; intro h; exact h92 (UInt8.toNat_inj.1 (by simpa using (by omega : x.toNat = 92)))
          have hno2 := Aside0.mk (hno1.out (by rw [hdef, e34, e92]; rfl))
          clear hdef hsp1 hno1
          go_wp2
          go_roundg k1
          case measure => omega
          case rel => exact ⟨i + 1, (congrArg Value.string hno2.out), rfl, ⟨by have := HI.out; have := HI2.out; omega⟩, ⟨by repeat (first | (with_reducible first | exact HB.out | apply below_alloc | apply pw_below_drewN | apply below_drew1) | exact HB.out)⟩⟩
    · have hic : decide ((i : Int) < (S.size : Int)) = false := decide_eq_false (by omega)
      have hic2 : decide (i < S.size) = false := decide_eq_false (by omega)
      have hX1 := Aside0.mk (X_size S i (by omega))
      have hend := Aside0.mk (esc_end S i (by omega))
      clear hS hi
      obtain ⟨X, hX⟩ : ∃ X, (⟨#[34]⟩ : ByteArray) ++ (⟨(Val.esc (S.data.toList.take i)).toArray⟩ : ByteArray) = X := ⟨_, rfl⟩
      rw [hX] at hX1 hend ⊢
      clear hX
      have hz1 : (X.size + 1 ≤ 9223372036854775807) = True := eq_true (by have := hX1.out; omega)
      have hz1n : (9223372036854775807 < X.size + 1) = False := eq_false (by have := hX1.out; omega)
      have hz5n : (9223372036854775807 < S.size + 13) = False := eq_false (by have := hS1.out; omega)
      have hE : ((Val.quote S).toList == (X ++ ⟨#[34]⟩).toList) = true := by rw [hend.out]; simp
      have hz5 : (S.size + 13 ≤ 9223372036854775807) = True := eq_true (by have := hS1.out; omega)
      go_wp2_with (first | ((with_reducible refine gate_callee (f := 27) rfl ?_); refine goesL_ (some 50) rfl rfl Tryd.func27 (by kernel_rfl) rfl #[.int .i64 n] rfl (by (try simp only [List.map_toArray, List.map_cons, List.map_nil]); first | done | rfl) ?_; with_reducible refine (value_Number.calls n _ _ _ _ rfl).mono ?_; rintro e w9 ⟨rfl, hb⟩; refine ⟨_, rfl, ?_⟩; have n0_ := Aside0.mk (below_step (by repeat (first | (with_reducible first | exact HB.out | apply below_alloc | apply pw_below_drewN | apply below_drew1) | exact HB.out)) hb); clear HB; have HB := n0_; clear n0_; clear hb) | (with_reducible refine (value_Number.calls n _ _ _ _ rfl).mono ?_; rintro e w9 ⟨rfl, hb⟩; have n0_ := Aside0.mk (below_step (by repeat (first | (with_reducible first | exact HB.out | apply below_alloc | apply pw_below_drewN | apply below_drew1) | exact HB.out)) hb); clear HB; have HB := n0_; clear n0_; clear hb) | ((with_reducible refine gate_callee (f := 29) rfl ?_); refine goesL_ (some 51) rfl rfl Tryd.func29 (by kernel_rfl) rfl #[.agg #[.bool false, .int .i64 n, .string ⟨#[]⟩]] rfl (by (try simp only [List.map_toArray, List.map_cons, List.map_nil]); first | done | rfl) ?_; with_reducible refine (value_Say.calls false n ⟨#[]⟩ (Val.itoa n) _ (Val.tb HTAB (by repeat (first | (with_reducible first | exact HB.out | apply below_alloc | apply pw_below_drewN | apply below_drew1) | exact HB.out))) hsn.out).mono ?_; rintro e w9 ⟨rfl, hb⟩; refine ⟨_, rfl, ?_⟩; have n0_ := Aside0.mk (below_step (by repeat (first | (with_reducible first | exact HB.out | apply below_alloc | apply pw_below_drewN | apply below_drew1) | exact HB.out)) hb); clear HB; have HB := n0_; clear n0_; clear hb) | (with_reducible refine (value_Say.calls false n ⟨#[]⟩ (Val.itoa n) _ (Val.tb HTAB (by repeat (first | (with_reducible first | exact HB.out | apply below_alloc | apply pw_below_drewN | apply below_drew1) | exact HB.out))) hsn.out).mono ?_; rintro e w9 ⟨rfl, hb⟩; have n0_ := Aside0.mk (below_step (by repeat (first | (with_reducible first | exact HB.out | apply below_alloc | apply pw_below_drewN | apply below_drew1) | exact HB.out)) hb); clear HB; have HB := n0_; clear n0_; clear hb) | ((with_reducible refine gate_callee (f := 20) rfl ?_); refine goesL_ (some 53) rfl rfl Tryd.func20 (by kernel_rfl) rfl #[.int .i64 n] rfl (by (try simp only [List.map_toArray, List.map_cons, List.map_nil]); first | done | rfl) ?_; with_reducible refine (broadsidekeep_Num.calls 30 n (Val.itoa n) _ hnum.out).mono ?_; rintro e w9 ⟨rfl, hb⟩; refine ⟨_, rfl, ?_⟩; have n0_ := Aside0.mk (below_step (by repeat (first | (with_reducible first | exact HB.out | apply below_alloc | apply pw_below_drewN | apply below_drew1) | exact HB.out)) hb); clear HB; have HB := n0_; clear n0_; clear hb) | (with_reducible refine (broadsidekeep_Num.calls 30 n (Val.itoa n) _ hnum.out).mono ?_; rintro e w9 ⟨rfl, hb⟩; have n0_ := Aside0.mk (below_step (by repeat (first | (with_reducible first | exact HB.out | apply below_alloc | apply pw_below_drewN | apply below_drew1) | exact HB.out)) hb); clear HB; have HB := n0_; clear n0_; clear hb) | ((with_reducible refine gate_callee (f := 28) rfl ?_); refine goesL_ (some 59) rfl rfl Tryd.func28 (by kernel_rfl) rfl #[.string S] rfl (by (try simp only [List.map_toArray, List.map_cons, List.map_nil]); first | done | rfl) ?_; with_reducible refine (value_Text.calls S _ _ _ _ rfl).mono ?_; rintro e w9 ⟨rfl, hb⟩; refine ⟨_, rfl, ?_⟩; have n0_ := Aside0.mk (below_step (by repeat (first | (with_reducible first | exact HB.out | apply below_alloc | apply pw_below_drewN | apply below_drew1) | exact HB.out)) hb); clear HB; have HB := n0_; clear n0_; clear hb) | (with_reducible refine (value_Text.calls S _ _ _ _ rfl).mono ?_; rintro e w9 ⟨rfl, hb⟩; have n0_ := Aside0.mk (below_step (by repeat (first | (with_reducible first | exact HB.out | apply below_alloc | apply pw_below_drewN | apply below_drew1) | exact HB.out)) hb); clear HB; have HB := n0_; clear n0_; clear hb) | ((with_reducible refine gate_callee (f := 30) rfl ?_); refine goesL_ (some 60) rfl rfl Tryd.func30 (by kernel_rfl) rfl #[.agg #[.bool true, .int .i64 0, .string S]] rfl (by (try simp only [List.map_toArray, List.map_cons, List.map_nil]); first | done | rfl) ?_; with_reducible refine (value_Right.calls true 0 S true _ hr1.out).mono ?_; rintro e w9 ⟨rfl, hb⟩; refine ⟨_, rfl, ?_⟩; have n0_ := Aside0.mk (below_step (by repeat (first | (with_reducible first | exact HB.out | apply below_alloc | apply pw_below_drewN | apply below_drew1) | exact HB.out)) hb); clear HB; have HB := n0_; clear n0_; clear hb) | (with_reducible refine (value_Right.calls true 0 S true _ hr1.out).mono ?_; rintro e w9 ⟨rfl, hb⟩; have n0_ := Aside0.mk (below_step (by repeat (first | (with_reducible first | exact HB.out | apply below_alloc | apply pw_below_drewN | apply below_drew1) | exact HB.out)) hb); clear HB; have HB := n0_; clear n0_; clear hb) | ((with_reducible refine gate_callee (f := 28) rfl ?_); refine goesL_ (some 65) rfl rfl Tryd.func28 (by kernel_rfl) rfl #[.string (S ++ ⟨#[49, 50, 51, 52, 53, 54, 55, 56, 57, 48, 49, 50, 51]⟩)] rfl (by (try simp only [List.map_toArray, List.map_cons, List.map_nil]); first | done | rfl) ?_; with_reducible refine (value_Text.calls (S ++ ⟨#[49, 50, 51, 52, 53, 54, 55, 56, 57, 48, 49, 50, 51]⟩) _ _ _ _ rfl).mono ?_; rintro e w9 ⟨rfl, hb⟩; refine ⟨_, rfl, ?_⟩; have n0_ := Aside0.mk (below_step (by repeat (first | (with_reducible first | exact HB.out | apply below_alloc | apply pw_below_drewN | apply below_drew1) | exact HB.out)) hb); clear HB; have HB := n0_; clear n0_; clear hb) | (with_reducible refine (value_Text.calls (S ++ ⟨#[49, 50, 51, 52, 53, 54, 55, 56, 57, 48, 49, 50, 51]⟩) _ _ _ _ rfl).mono ?_; rintro e w9 ⟨rfl, hb⟩; have n0_ := Aside0.mk (below_step (by repeat (first | (with_reducible first | exact HB.out | apply below_alloc | apply pw_below_drewN | apply below_drew1) | exact HB.out)) hb); clear HB; have HB := n0_; clear n0_; clear hb) | ((with_reducible refine gate_callee (f := 30) rfl ?_); refine goesL_ (some 66) rfl rfl Tryd.func30 (by kernel_rfl) rfl #[.agg #[.bool true, .int .i64 0, .string (S ++ ⟨#[49, 50, 51, 52, 53, 54, 55, 56, 57, 48, 49, 50, 51]⟩)]] rfl (by (try simp only [List.map_toArray, List.map_cons, List.map_nil]); first | done | rfl) ?_; with_reducible refine (value_Right.calls true 0 (S ++ ⟨#[49, 50, 51, 52, 53, 54, 55, 56, 57, 48, 49, 50, 51]⟩) false _ hr2.out).mono ?_; rintro e w9 ⟨rfl, hb⟩; refine ⟨_, rfl, ?_⟩; have n0_ := Aside0.mk (below_step (by repeat (first | (with_reducible first | exact HB.out | apply below_alloc | apply pw_below_drewN | apply below_drew1) | exact HB.out)) hb); clear HB; have HB := n0_; clear n0_; clear hb) | (with_reducible refine (value_Right.calls true 0 (S ++ ⟨#[49, 50, 51, 52, 53, 54, 55, 56, 57, 48, 49, 50, 51]⟩) false _ hr2.out).mono ?_; rintro e w9 ⟨rfl, hb⟩; have n0_ := Aside0.mk (below_step (by repeat (first | (with_reducible first | exact HB.out | apply below_alloc | apply pw_below_drewN | apply below_drew1) | exact HB.out)) hb); clear HB; have HB := n0_; clear n0_; clear hb) | ((with_reducible refine gate_callee (f := 30) rfl ?_); refine goesL_ (some 71) rfl rfl Tryd.func30 (by kernel_rfl) rfl #[.agg #[.bool true, .int .i64 1, .string ⟨#[]⟩]] rfl (by (try simp only [List.map_toArray, List.map_cons, List.map_nil]); first | done | rfl) ?_; with_reducible refine (value_Right.calls true 1 ⟨#[]⟩ false _ rfl).mono ?_; rintro e w9 ⟨rfl, hb⟩; refine ⟨_, rfl, ?_⟩; have n0_ := Aside0.mk (below_step (by repeat (first | (with_reducible first | exact HB.out | apply below_alloc | apply pw_below_drewN | apply below_drew1) | exact HB.out)) hb); clear HB; have HB := n0_; clear n0_; clear hb) | (with_reducible refine (value_Right.calls true 1 ⟨#[]⟩ false _ rfl).mono ?_; rintro e w9 ⟨rfl, hb⟩; have n0_ := Aside0.mk (below_step (by repeat (first | (with_reducible first | exact HB.out | apply below_alloc | apply pw_below_drewN | apply below_drew1) | exact HB.out)) hb); clear HB; have HB := n0_; clear n0_; clear hb) | ((with_reducible refine gate_callee (f := 7) rfl ?_); refine goesL_ (some 75) rfl rfl Tryd.func7 (by kernel_rfl) rfl #[] rfl (by (try simp only [List.map_toArray, List.map_cons, List.map_nil]); first | done | rfl) ?_; with_reducible refine (runs_calls _ (Val.tb HTAB (by repeat (first | (with_reducible first | exact HB.out | apply below_alloc | apply pw_below_drewN | apply below_drew1) | exact HB.out)))).mono ?_; rintro e w9 ⟨rfl, hb⟩; refine ⟨_, rfl, ?_⟩; have n0_ := Aside0.mk (below_step (by repeat (first | (with_reducible first | exact HB.out | apply below_alloc | apply pw_below_drewN | apply below_drew1) | exact HB.out)) hb); clear HB; have HB := n0_; clear n0_; clear hb) | (with_reducible refine (runs_calls _ (Val.tb HTAB (by repeat (first | (with_reducible first | exact HB.out | apply below_alloc | apply pw_below_drewN | apply below_drew1) | exact HB.out)))).mono ?_; rintro e w9 ⟨rfl, hb⟩; have n0_ := Aside0.mk (below_step (by repeat (first | (with_reducible first | exact HB.out | apply below_alloc | apply pw_below_drewN | apply below_drew1) | exact HB.out)) hb); clear HB; have HB := n0_; clear n0_; clear hb))
      go_ret
      exact ⟨rfl, by repeat (first | (with_reducible first | exact HB.out | apply below_alloc | apply pw_below_drewN | apply below_drew1) | exact HB.out)⟩

theorem says_calls (n : Int) (s : ByteArray) (w : World) (HTAB : Aside0 (Val.Tab w)) (h0 : -9223372036854775808 ≤ n) (h1 : n ≤ 9223372036854775807) :
    Calls Tryd.prog 11 #[.int .i64 n, .string s] w fun e w' => e = .returned (.bool true) ∧ Below w.heap.size w w' := by
  by_cases h : n < -4611686018427387904
  · exact says_a n s w HTAB h0 h1 h
  · exact says_b n s w HTAB h0 h1 (by omega)
end Go.Proofs.YtpkdfjlkhfjlcaaDoor.MVal
