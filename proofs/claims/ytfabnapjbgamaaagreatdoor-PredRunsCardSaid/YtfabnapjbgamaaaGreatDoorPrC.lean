import Derived.Test.YtfabnapjbgamaaaGreatDoorMPredx2
import Derived.Deep.LoopGhost
import Derived.Shelf.Abstract
import Derived.Lib.Bytealg
namespace Go.Proofs.YtfabnapjbgamaaaGreatDoor.MPred
open Go.RowKit Go.Lib Go.Proofs.YtfabnapjbgamaaaGreatDoorW.PrintWords Go.Proofs.YtfabnapjbgamaaaGreatDoorW.PrintLast Go.Proofs.YtfabnapjbgamaaaGreatDoorW.PrintMore
set_option linter.unusedVariables false
set_option linter.unusedSimpArgs false
theorem countP_boundary {α : Type} (d : α) (p : α → Bool) : ∀ (l : List α) (i : Nat), i ≤ l.length → (∀ t, t < i → p (l.getD t d) = true) → (∀ t, i ≤ t → t < l.length → p (l.getD t d) = false) → l.countP p = i
  | [], i, hi, _, _ => by simp at hi; simp [hi]
  | a :: r, 0, _, _, h2 => by
    rw [List.countP_eq_zero]
    intro x hx
    obtain ⟨t, ht, rfl⟩ := List.getElem_of_mem hx
    have := h2 t (Nat.zero_le _) ht
    rw [List.getD_eq_getElem?_getD, List.getElem?_eq_getElem ht] at this
    simpa using this
  | a :: r, i + 1, hi, h1, h2 => by
    have ha : p a = true := by simpa using h1 0 (Nat.succ_pos _)
    rw [List.countP_cons_of_pos ha, countP_boundary d p r i (by simpa using hi) (fun t ht => by simpa using h1 (t + 1) (by omega)) (fun t h3 h4 => by simpa using h2 (t + 1) (by omega) (by simpa using h4))]
set_option maxHeartbeats 4000000 in
set_option maxRecDepth 1000000 in
theorem bs23 (tv : Value) (cft : S23 → Int) (g : Nat) (cb : Array Value) (A : Option Addr) (c : Nat) (l : List S23) (w : World)
    (eg : ∀ args w, (callFunc g args).run Tryz.prog w = .ok (.enter g args) w)
    (hcmp : ∀ (x : S23) (W : World), Calls Tryz.prog g (#[.agg #[.string x.f0, .int .i64 x.f1, .int .i64 x.f2, .int .i64 x.f3, .string x.f4], tv] ++ cb) W fun e w' => e = .returned (.int .i64 (cft x)) ∧ Below W.heap.size W w')
    (hC : Kd.C k23 w A l.length l) (hsz : l.length < 4611686018427387904)
    (hmono : ∀ a b, a ≤ b → b < l.length → cft (l.getD b z23) < 0 → cft (l.getD a z23) < 0) :
    Calls Tryz.prog 29 #[.slice A l.length c, tv, .func (.func g) #[] cb] w fun e w' =>
      e = .returned (.tuple #[.int .i64 (l.countP (fun x => decide (cft x < 0)) : Nat), .bool (decide (l.countP (fun x => decide (cft x < 0)) < l.length) && decide (cft (l.getD (l.countP (fun x => decide (cft x < 0))) z23) = 0))]) ∧ Below w.heap.size w w' := by
  have hu23 := Tryz.underlying23
  have HC := Aside0.mk hcmp
  have S0 := Aside0.mk (Below.refl w.heap.size w)
  have M := Aside0.mk hmono
  have HR := Aside0.mk hC
  clear hcmp hmono hC
  generalize hcnt : l.countP (fun x => decide (cft x < 0)) = cnt
  have CN := Aside0.mk hcnt
  clear hcnt
  generalize hfin : (decide (cnt < l.length) && decide (cft (l.getD cnt z23) = 0)) = fin
  have FIN := Aside0.mk hfin
  clear hfin
  obtain ⟨n, hn⟩ : ∃ n, n = l.length := ⟨_, rfl⟩
  have HN := Aside0.mk hn
  rw [← hn] at hsz ⊢
  clear hn
  go_enter Tryz.func29, Tryz.ntmps29
  go_wp2
  go_loopg [9, 10] n (fun kx s9 s10 wr => ∃ lo hi : Nat, s9 = .int .i64 lo ∧ s10 = .int .i64 hi ∧ lo ≤ hi ∧ hi ≤ n ∧ hi - lo ≤ kx ∧ Aside0 (Below w.heap.size w wr) ∧
    Aside0 ((∀ t, t < lo → cft (l.getD t z23) < 0) ∧ (∀ t, hi ≤ t → t < n → 0 ≤ cft (l.getD t z23))))
  case atStart => exact ⟨0, n, rfl, rfl, Nat.zero_le _, Nat.le_refl _, by omega, S0, ⟨fun t ht => absurd ht (Nat.not_lt_zero _), fun t h1 h2 => by omega⟩⟩
  case round =>
    clear S0
    obtain ⟨lo, hi, rfl, rfl, hlh, hin, hg, S1, I⟩ := hrel
    by_cases hlt : lo < hi
    · have hC1 := Kd.C_below HR.out S1.out
      obtain ⟨ad, rfl, x0, x1, x2, x3, x4⟩ := at_T23 hC1 (((lo + hi) / 2 : Nat) : Int) (by omega) (by have := HN.out; omega)
      simp only [Int.toNat_natCast] at x0 x1 x2 x3 x4
      have Y0 : rd_T23 l (((lo + hi) / 2 : Nat) : Int) = l.getD ((lo + hi) / 2) z23 := by unfold rd_T23; rw [Int.toNat_natCast]
      rw [Y0] at x0 x1 x2 x3 x4
      clear Y0 hC1
      generalize hy : l.getD ((lo + hi) / 2) z23 = y at x0 x1 x2 x3 x4
      have Y := Aside0.mk hy
      clear hy
      have hc := HC.out y
      by_cases hyx : cft y < 0
      · go_wp2_with (go_at_fn g; refine (hc _).mono ?_; rintro e w' ⟨rfl, hb⟩)
        go_roundg (hi - ((lo + hi) / 2 + 1))
        case measure => omega
        case rel =>
          have S2 := Aside0.mk (below_then S1.out S1.out.size hb)
          have I2 : Aside0 ((∀ t, t < (lo + hi) / 2 + 1 → cft (l.getD t z23) < 0) ∧ (∀ t, hi ≤ t → t < n → 0 ≤ cft (l.getD t z23))) := ⟨fun t ht => M.out t ((lo + hi) / 2) (by omega) (by have := HN.out; omega) (by rw [Y.out]; exact hyx), I.out.2⟩
          exact ⟨(lo + hi) / 2 + 1, hi, by rw [show ((lo : Int) + (hi : Int)) / 2 + 1 = (((lo + hi) / 2 + 1 : Nat) : Int) by omega], rfl, by omega, hin, Nat.le_refl _, S2, I2⟩
      · go_wp2_with (go_at_fn g; refine (hc _).mono ?_; rintro e w' ⟨rfl, hb⟩)
        go_roundg ((lo + hi) / 2 - lo)
        case measure => omega
        case rel =>
          have S2 := Aside0.mk (below_then S1.out S1.out.size hb)
          have I2 : Aside0 ((∀ t, t < lo → cft (l.getD t z23) < 0) ∧ (∀ t, (lo + hi) / 2 ≤ t → t < n → 0 ≤ cft (l.getD t z23))) := ⟨I.out.1, fun t ht htn => Int.not_lt.1 fun h => by have := M.out ((lo + hi) / 2) t ht (by have := HN.out; omega) h; rw [Y.out] at this; omega⟩
          exact ⟨lo, (lo + hi) / 2, rfl, by rw [show ((lo : Int) + (hi : Int)) / 2 = (((lo + hi) / 2 : Nat) : Int) by omega], by omega, by omega, Nat.le_refl _, S2, I2⟩
    · obtain rfl : hi = lo := by omega
      have ecnt : cnt = hi := by
        rw [← CN.out]
        refine countP_boundary z23 _ l hi (by have := HN.out; omega) (fun t ht => ?_) (fun t h3 h4 => ?_)
        · exact decide_eq_true (I.out.1 t ht)
        · exact decide_eq_false (by have := I.out.2 t h3 (by have := HN.out; omega); omega)
      subst ecnt
      by_cases hn : cnt < n
      · have hC1 := Kd.C_below HR.out S1.out
        obtain ⟨ad, rfl, x0, x1, x2, x3, x4⟩ := at_T23 hC1 (cnt : Int) (by omega) (by have := HN.out; omega)
        simp only [Int.toNat_natCast] at x0 x1 x2 x3 x4
        have Y0 : rd_T23 l (cnt : Int) = l.getD cnt z23 := by unfold rd_T23; rw [Int.toNat_natCast]
        rw [Y0] at x0 x1 x2 x3 x4
        clear Y0 hC1
        generalize hy : l.getD cnt z23 = y at x0 x1 x2 x3 x4
        have Y := Aside0.mk hy
        clear hy
        have hc := HC.out y
        go_wp2_with (go_at_fn g; refine (hc _).mono ?_; rintro e w' ⟨rfl, hb⟩)
        all_goals (go_ret2; exact ⟨by rw [← FIN.out, Y.out, ← HN.out]; simp [*]; try (rw [Bool.eq_iff_iff]; simp), below_then S1.out S1.out.size hb⟩)
      · go_wp2
        go_ret2
        exact ⟨by rw [← FIN.out, ← HN.out]; simp [hn], S1.out⟩
abbrev cmpB (a b : ByteArray) : Int := Lib.compareBytes a.data.toList b.data.toList
set_option maxRecDepth 1000000 in
theorem strings_Compare.calls (a b : ByteArray) (w : World) :
    Calls Tryz.prog 31 #[.string a, .string b] w fun e w' => e = .returned (.int .i64 (cmpB a b)) ∧ w = w' := by
  go_enter Tryz.func31, Tryz.ntmps31
  go_wp2
  rw [run_callFunc_extern Tryz.func58 (by kernel_rfl) (by kernel_rfl) (by kernel_rfl) (e := Extern.BytealgCompare.compare) (by kernel_rfl), Lib.run_compareString]
  simp only [Result.andThen]
  rw [Oper.upon_value]
  go_wp2
  go_ret
  exact ⟨rfl, rfl⟩
set_option maxRecDepth 1000000 in
theorem cmp23.calls (x : S23) (s : ByteArray) (W : World) :
    Calls Tryz.prog 30 (#[.agg #[.string x.f0, .int .i64 x.f1, .int .i64 x.f2, .int .i64 x.f3, .string x.f4], .string s] ++ #[]) W fun e w' => e = .returned (.int .i64 (cmpB x.f0 s)) ∧ Below W.heap.size W w' := by
  have hu23 := Tryz.underlying23
  show Calls Tryz.prog 30 #[.agg #[.string x.f0, .int .i64 x.f1, .int .i64 x.f2, .int .i64 x.f3, .string x.f4], .string s] W _
  go_enter Tryz.func30, Tryz.ntmps30
  go_wp2_with (go_at_call 31; refine (strings_Compare.calls _ _ _).mono ?_; rintro e w' ⟨rfl, rfl⟩)
  go_ret
  exact ⟨rfl, below_alloc (Below.refl _ _) _⟩
theorem fault_New.some (s : ByteArray) (n : Int) (t : TypeId) (v : Value) (w : World) :
    Calls Tryz.prog 28 #[.string s, .int .i64 n, .iface t v] w fun e w' => e = .returned (.iface 73 (.pointer (some ⟨w.heap.size, 0, none⟩))) ∧ Below w.heap.size w w' := by
  have hu77 := Tryz.underlying77
  go_enter Tryz.func28, Tryz.ntmps28
  go_wp2
  go_ret
  exact ⟨rfl, below_alloc (Below.refl _ _) _⟩
abbrev enc23 (x : S23) : List Value := [.string x.f0, .int .i64 x.f1, .int .i64 x.f2, .int .i64 x.f3, .string x.f4]
def flat23 : List S23 → List Value
  | [] => []
  | x :: r => .string x.f0 :: .int .i64 x.f1 :: .int .i64 x.f2 :: .int .i64 x.f3 :: .string x.f4 :: flat23 r
theorem flat23_length : ∀ xs : List S23, (flat23 xs).length = xs.length * 5
  | [] => rfl
  | x :: r => by simp [flat23, flat23_length r, Nat.succ_mul]
theorem flat23_append : ∀ xs ys : List S23, flat23 (xs ++ ys) = flat23 xs ++ flat23 ys
  | [], _ => rfl
  | x :: r, ys => by simp [flat23, flat23_append r ys]
theorem flat23_take : ∀ (xs : List S23) (i : Nat), (flat23 xs).take (i * 5) = flat23 (xs.take i)
  | [], i => by simp [flat23]
  | x :: r, 0 => by simp [flat23]
  | x :: r, i + 1 => by
    rw [Nat.succ_mul, flat23]
    simp only [List.take_succ_cons]
    rw [flat23_take r i, flat23]
theorem flat23_drop : ∀ (xs : List S23) (i : Nat), (flat23 xs).drop (i * 5) = flat23 (xs.drop i)
  | [], i => by simp [flat23]
  | x :: r, 0 => by simp
  | x :: r, i + 1 => by
    rw [Nat.succ_mul, flat23]
    simp only [List.drop_succ_cons]
    exact flat23_drop r i
theorem flat23_set : ∀ (xs : List S23) (k : Nat) (y : S23), k < xs.length →
    ((((((flat23 xs).set (k * 5) (.string y.f0)).set (k * 5 + 1) (.int .i64 y.f1)).set (k * 5 + 2) (.int .i64 y.f2)).set (k * 5 + 3) (.int .i64 y.f3)).set (k * 5 + 4) (.string y.f4)) = flat23 (xs.set k y)
  | [], k, y, h => by simp at h
  | x :: r, 0, y, h => by simp [flat23]
  | x :: r, k + 1, y, h => by
    rw [Nat.succ_mul, flat23]
    have := flat23_set r k y (by simpa using h)
    simp only [List.set_cons_succ, flat23, ← this]
theorem flat23_one : ∀ (xs : List S23), ∀ u ∈ flat23 xs, u.oneCell' = true
  | [], u, h => by simp [flat23] at h
  | x :: r, u, h => by
    simp only [flat23, List.mem_cons] at h
    rcases h with rfl | rfl | rfl | rfl | rfl | h
    · rfl
    · rfl
    · rfl
    · rfl
    · rfl
    · exact flat23_one r u h
theorem flat23_reps (w : World) (base : Nat) (ok : Nat → Prop) : ∀ xs : List S23, Reps (k23.M w base ok) 5 xs (flat23 xs) := by
  intro xs
  refine ⟨flat23_length xs, fun j p hj => ?_⟩
  have hlt : j < xs.length := (List.getElem?_eq_some_iff.1 hj).1
  rw [flat23_drop]
  have : xs.drop j = p :: xs.drop (j + 1) := by
    rw [List.getElem?_eq_getElem hlt] at hj
    rw [List.drop_eq_getElem_cons hlt, Option.some.inj hj]
  rw [this]
  exact k23_mkM w base ok p
theorem R_of_flat {w : World} {base : Nat} {v : Value} {xs : List S23} (h : w.ownsRow base 23 5 v xs.length (flat23 xs)) : Kd.R k23 23 w base (fun _ => True) v xs :=
  ⟨fun _ _ => trivial, flat23 xs, h, flat23_reps _ _ _ _⟩
theorem own_cell_set {w : World} {base e size n g cap : Nat} {xs : List Value} (h : w.ownsRow base e size (.slice (some ⟨g, 0, none⟩) n cap) n xs) (j : Nat) (hj : j < xs.length) (u : Value) :
    (w.setCell ⟨g, j, none⟩ u).ownsRow base e size (.slice (some ⟨g, 0, none⟩) n cap) n (xs.set j u) := by
  obtain ⟨hl, ⟨h0, _⟩ | ⟨g', cap', cur, he, hg, hh, hnc, hc, hcs, ht⟩⟩ := h
  · cases h0
  · injection he with e1 e2 e3
    injection e1 with e1
    injection e1 with e1
    subst e1
    subst e3
    refine ⟨by simp [hl], .inr ⟨g, cap, cur.setIfInBounds j u, rfl, hg, blk_set hh j u, hnc, hc, by simp [hcs], ?_⟩⟩
    rw [Array.toList_setIfInBounds, List.take_set, ht]
theorem cb_self : ∀ a : List UInt8, Lib.compareBytes a a = 0
  | [] => rfl
  | a :: al => by
    unfold Lib.compareBytes
    rw [if_neg (by simp), if_neg (by simp)]
    exact cb_self al
theorem cb_eq : ∀ a b : List UInt8, Lib.compareBytes a b = 0 → a = b
  | [], [], _ => rfl
  | [], _ :: _, h => by simp [Lib.compareBytes] at h
  | _ :: _, [], h => by simp [Lib.compareBytes] at h
  | a :: al, b :: bs, h => by
    unfold Lib.compareBytes at h
    split at h
    · cases h
    · split at h
      · cases h
      · rename_i h1 h2
        have : a = b := UInt8.le_antisymm (UInt8.not_lt.1 h2) (UInt8.not_lt.1 h1)
        rw [this, cb_eq al bs h]
theorem cb_anti : ∀ a b : List UInt8, Lib.compareBytes b a = - Lib.compareBytes a b
  | [], [] => rfl
  | [], _ :: _ => rfl
  | _ :: _, [] => rfl
  | a :: al, b :: bs => by
    unfold Lib.compareBytes
    by_cases h1 : a < b
    · rw [if_neg (UInt8.lt_asymm h1), if_pos h1, if_pos h1]
      rfl
    · by_cases h2 : b < a
      · rw [if_pos h2, if_neg h1, if_pos h2]
      · rw [if_neg h2, if_neg h1, if_neg h1, if_neg h2]
        exact cb_anti al bs
theorem cb_trans : ∀ a b c : List UInt8, Lib.compareBytes a b < 0 → Lib.compareBytes b c < 0 → Lib.compareBytes a c < 0
  | [], [], _, h, _ => by simp [Lib.compareBytes] at h
  | [], _ :: _, [], _, h => by simp [Lib.compareBytes] at h
  | [], _ :: _, _ :: _, _, _ => by simp [Lib.compareBytes]
  | _ :: _, [], _, h, _ => by simp [Lib.compareBytes] at h
  | _ :: _, _ :: _, [], _, h => by simp [Lib.compareBytes] at h
  | a :: al, b :: bs, c :: cs, h1, h2 => by
    unfold Lib.compareBytes at h1 h2 ⊢
    by_cases x : a < b
    · by_cases y : b < c
      · rw [if_pos (UInt8.lt_trans x y)]; decide
      · rw [if_neg y] at h2
        by_cases z : c < b
        · rw [if_pos z] at h2; omega
        · have : b = c := UInt8.le_antisymm (UInt8.not_lt.1 z) (UInt8.not_lt.1 y)
          subst this
          rw [if_pos x]; decide
    · rw [if_neg x] at h1
      by_cases x' : b < a
      · rw [if_pos x'] at h1; omega
      · have : a = b := UInt8.le_antisymm (UInt8.not_lt.1 x') (UInt8.not_lt.1 x)
        subst this
        rw [if_neg x] at h1
        by_cases y : a < c
        · rw [if_pos y]; decide
        · rw [if_neg y] at h2 ⊢
          by_cases z : c < a
          · rw [if_pos z] at h2; omega
          · rw [if_neg z] at h2 ⊢
            exact cb_trans al bs cs h1 h2
theorem ba_ext {a b : ByteArray} (h : a.data.toList = b.data.toList) : a = b := by
  cases a; cases b
  simp only [ByteArray.mk.injEq]
  exact Array.toList_inj.1 h
theorem cmpB_self (a : ByteArray) : cmpB a a = 0 := cb_self _
theorem cmpB_eq {a b : ByteArray} (h : cmpB a b = 0) : a = b := ba_ext (cb_eq _ _ h)
theorem cmpB_anti (a b : ByteArray) : cmpB b a = - cmpB a b := cb_anti _ _
theorem cmpB_trans {a b c : ByteArray} (h : cmpB a b < 0) (k : cmpB b c < 0) : cmpB a c < 0 := cb_trans _ _ _ h k
/-- A row by rising names. -/
def Rises (l : List S23) : Prop := ∀ a b, a < b → b < l.length → cmpB (l.getD a z23).f0 (l.getD b z23).f0 < 0
theorem Rises.mono {l : List S23} (h : Rises l) (s : ByteArray) : ∀ a b, a ≤ b → b < l.length → cmpB (l.getD b z23).f0 s < 0 → cmpB (l.getD a z23).f0 s < 0 := by
  intro a b hab hb hs
  rcases Nat.lt_or_ge a b with h1 | h1
  · exact cmpB_trans (h a b h1 hb) hs
  · obtain rfl : a = b := by omega
    exact hs
theorem countP_lt {l : List S23} (p : S23 → Bool) (hp : ∀ a b, a ≤ b → b < l.length → p (l.getD b z23) = true → p (l.getD a z23) = true) : (∀ t, t < l.countP p → p (l.getD t z23) = true) ∧ ∀ t, l.countP p ≤ t → t < l.length → p (l.getD t z23) = false := by
  have key : ∃ i, i ≤ l.length ∧ (∀ t, t < i → p (l.getD t z23) = true) ∧ ∀ t, i ≤ t → t < l.length → p (l.getD t z23) = false := by
    by_cases hall : ∀ t, t < l.length → p (l.getD t z23) = true
    · exact ⟨l.length, Nat.le_refl _, hall, fun t h1 h2 => by omega⟩
    · have hex : ∃ t, t < l.length ∧ p (l.getD t z23) = false := by
        apply Classical.byContradiction
        intro hn
        refine hall fun t ht => ?_
        cases hq : p (l.getD t z23) with
        | true => rfl
        | false => exact absurd ⟨t, ht, hq⟩ hn
      have hd : ∀ n, (∃ t, t ≤ n ∧ t < l.length ∧ p (l.getD t z23) = false) → ∃ i, i < l.length ∧ p (l.getD i z23) = false ∧ ∀ t, t < i → p (l.getD t z23) = true := by
        intro n
        induction n with
        | zero =>
          rintro ⟨t, h0, h1, h2⟩
          obtain rfl : t = 0 := by omega
          exact ⟨0, h1, h2, fun t ht => by omega⟩
        | succ n ih =>
          rintro ⟨t, h0, h1, h2⟩
          by_cases hlow : ∃ t, t ≤ n ∧ t < l.length ∧ p (l.getD t z23) = false
          · exact ih hlow
          · refine ⟨t, h1, h2, fun s hs => ?_⟩
            cases hq : p (l.getD s z23) with
            | true => rfl
            | false => exact absurd ⟨s, by omega, by omega, hq⟩ hlow
      obtain ⟨t, h1, h2⟩ := hex
      obtain ⟨i, hi, hf, ht⟩ := hd t ⟨t, Nat.le_refl _, h1, h2⟩
      refine ⟨i, by omega, ht, fun s hs hsl => ?_⟩
      cases hq : p (l.getD s z23) with
      | false => rfl
      | true => have := hp i s hs hsl hq; rw [hf] at this; cases this
  obtain ⟨i, hi, h1, h2⟩ := key
  rw [countP_boundary z23 p l i hi h1 h2]
  exact ⟨h1, h2⟩
end Go.Proofs.YtfabnapjbgamaaaGreatDoor.MPred
