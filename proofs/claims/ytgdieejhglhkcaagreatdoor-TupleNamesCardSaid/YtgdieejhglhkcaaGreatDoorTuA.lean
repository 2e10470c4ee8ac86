import Derived.Test.YtgdieejhglhkcaaGreatDoorMTupx5
import Derived.Deep.LoopGhost
import Derived.Shelf.Abstract
import Derived.Lib.Bytealg
import Derived.Lib.Overlaps
import Derived.Lib.SliceRun
import Derived.Lib.AppendZerosOnto
import Derived.Laws.CopyRow
import Derived.Laws.CopyOwn
import Derived.Laws.Externs
import Derived.Deep.RegionLaw
import Derived.WalkSpells
import Derived.Lib.Join
namespace Go.Proofs.YtgdieejhglhkcaaGreatDoor.MTup
open Go.RowKit Go.Lib Go.Proofs.YtgdieejhglhkcaaGreatDoorW.PrintWords Go.Proofs.YtgdieejhglhkcaaGreatDoorW.PrintLast Go.Proofs.YtgdieejhglhkcaaGreatDoorW.PrintMore
set_option linter.unusedVariables false
set_option linter.unusedSimpArgs false
theorem countP_boundary {α : Type} (d : α) (p : α → Bool) : ∀ (l : List α) (i : Nat), i ≤ l.length → (∀ t, t < i → p (l.getD t d) = true) → (∀ t, i ≤ t → t < l.length → p (l.getD t d) = false) → l.countP p = i
  | [], i, hi, _, _ => by simp at hi; simp [hi]
  | a :: r, 0, _, _, h2 => by
    rw [List.countP_eq_zero]
    intro x hx
    obtain ⟨t, ht, rfl⟩ := List.getElem_of_mem hx
    have := h2 t (Nat.zero_le _) ht
    rw [List.getD_eq_getElem?_getD, List.getElem?_eq_getElem ht] at this
    simpa using this
  | a :: r, i + 1, hi, h1, h2 => by
    have ha : p a = true := by simpa using h1 0 (Nat.succ_pos _)
    rw [List.countP_cons_of_pos ha, countP_boundary d p r i (by simpa using hi) (fun t ht => by simpa using h1 (t + 1) (by omega)) (fun t h3 h4 => by simpa using h2 (t + 1) (by omega) (by simpa using h4))]
set_option maxHeartbeats 4000000 in
set_option maxRecDepth 1000000 in
theorem bs25 (tv : Value) (cft : S25 → Int) (g : Nat) (cb : Array Value) (A : Option Addr) (c : Nat) (l : List S25) (w : World)
    (eg : ∀ args w, (callFunc g args).run Tryz.prog w = .ok (.enter g args) w)
    (hcmp : ∀ (x : S25) (W : World), Calls Tryz.prog g (#[.agg #[.string x.f0, .bool x.f1.f0, .int .i64 x.f1.f1, .string x.f1.f2], tv] ++ cb) W fun e w' => e = .returned (.int .i64 (cft x)) ∧ Below W.heap.size W w')
    (hC : Kd.C k25 w A l.length l) (hsz : l.length < 4611686018427387904)
    (hmono : ∀ a b, a ≤ b → b < l.length → cft (l.getD b z25) < 0 → cft (l.getD a z25) < 0) :
    Calls Tryz.prog 25 #[.slice A l.length c, tv, .func (.func g) #[] cb] w fun e w' =>
      e = .returned (.tuple #[.int .i64 (l.countP (fun x => decide (cft x < 0)) : Nat), .bool (decide (l.countP (fun x => decide (cft x < 0)) < l.length) && decide (cft (l.getD (l.countP (fun x => decide (cft x < 0))) z25) = 0))]) ∧ Below w.heap.size w w' := by
  have hu25 := Tryz.underlying25
  have hu23 := Tryz.underlying23
  have HC := Aside0.mk hcmp
  have S0 := Aside0.mk (Below.refl w.heap.size w)
  have M := Aside0.mk hmono
  have HR := Aside0.mk hC
  clear hcmp hmono hC
  generalize hcnt : l.countP (fun x => decide (cft x < 0)) = cnt
  have CN := Aside0.mk hcnt
  clear hcnt
  generalize hfin : (decide (cnt < l.length) && decide (cft (l.getD cnt z25) = 0)) = fin
  have FIN := Aside0.mk hfin
  clear hfin
  obtain ⟨n, hn⟩ : ∃ n, n = l.length := ⟨_, rfl⟩
  have HN := Aside0.mk hn
  rw [← hn] at hsz ⊢
  clear hn
  go_enter Tryz.func25, Tryz.ntmps25
  go_wp2
  go_loopg [9, 10] n (fun kx s9 s10 wr => ∃ lo hi : Nat, s9 = .int .i64 lo ∧ s10 = .int .i64 hi ∧ lo ≤ hi ∧ hi ≤ n ∧ hi - lo ≤ kx ∧ Aside0 (Below w.heap.size w wr) ∧
    Aside0 ((∀ t, t < lo → cft (l.getD t z25) < 0) ∧ (∀ t, hi ≤ t → t < n → 0 ≤ cft (l.getD t z25))))
  case atStart => exact ⟨0, n, rfl, rfl, Nat.zero_le _, Nat.le_refl _, by omega, S0, ⟨fun t ht => absurd ht (Nat.not_lt_zero _), fun t h1 h2 => by omega⟩⟩
  case round =>
    clear S0
    obtain ⟨lo, hi, rfl, rfl, hlh, hin, hg, S1, I⟩ := hrel
    by_cases hlt : lo < hi
    · have hC1 := Kd.C_below HR.out S1.out
      obtain ⟨ad, rfl, x0, x1, x2, x3⟩ := at_T25 hC1 (((lo + hi) / 2 : Nat) : Int) (by omega) (by have := HN.out; omega)
      simp only [Int.toNat_natCast] at x0 x1 x2 x3
      have Y0 : rd_T25 l (((lo + hi) / 2 : Nat) : Int) = l.getD ((lo + hi) / 2) z25 := by unfold rd_T25; rw [Int.toNat_natCast]
      rw [Y0] at x0 x1 x2 x3
      clear Y0 hC1
      generalize hy : l.getD ((lo + hi) / 2) z25 = y at x0 x1 x2 x3
      have Y := Aside0.mk hy
      clear hy
      have hc := HC.out y
      by_cases hyx : cft y < 0
      · go_wp2_with (go_at_fn g; refine (hc _).mono ?_; rintro e w' ⟨rfl, hb⟩)
        go_roundg (hi - ((lo + hi) / 2 + 1))
        case measure => omega
        case rel =>
          have S2 := Aside0.mk (below_then S1.out S1.out.size hb)
          have I2 : Aside0 ((∀ t, t < (lo + hi) / 2 + 1 → cft (l.getD t z25) < 0) ∧ (∀ t, hi ≤ t → t < n → 0 ≤ cft (l.getD t z25))) := ⟨fun t ht => M.out t ((lo + hi) / 2) (by omega) (by have := HN.out; omega) (by rw [Y.out]; exact hyx), I.out.2⟩
          exact ⟨(lo + hi) / 2 + 1, hi, by rw [show ((lo : Int) + (hi : Int)) / 2 + 1 = (((lo + hi) / 2 + 1 : Nat) : Int) by omega], rfl, by omega, hin, Nat.le_refl _, S2, I2⟩
      · go_wp2_with (go_at_fn g; refine (hc _).mono ?_; rintro e w' ⟨rfl, hb⟩)
        go_roundg ((lo + hi) / 2 - lo)
        case measure => omega
        case rel =>
          have S2 := Aside0.mk (below_then S1.out S1.out.size hb)
          have I2 : Aside0 ((∀ t, t < lo → cft (l.getD t z25) < 0) ∧ (∀ t, (lo + hi) / 2 ≤ t → t < n → 0 ≤ cft (l.getD t z25))) := ⟨I.out.1, fun t ht htn => Int.not_lt.1 fun h => by have := M.out ((lo + hi) / 2) t ht (by have := HN.out; omega) h; rw [Y.out] at this; omega⟩
          exact ⟨lo, (lo + hi) / 2, rfl, by rw [show ((lo : Int) + (hi : Int)) / 2 = (((lo + hi) / 2 : Nat) : Int) by omega], by omega, by omega, Nat.le_refl _, S2, I2⟩
    · obtain rfl : hi = lo := by omega
      have ecnt : cnt = hi := by
        rw [← CN.out]
        refine countP_boundary z25 _ l hi (by have := HN.out; omega) (fun t ht => ?_) (fun t h3 h4 => ?_)
        · exact decide_eq_true (I.out.1 t ht)
        · exact decide_eq_false (by have := I.out.2 t h3 (by have := HN.out; omega); omega)
      subst ecnt
      by_cases hn : cnt < n
      · have hC1 := Kd.C_below HR.out S1.out
        obtain ⟨ad, rfl, x0, x1, x2, x3⟩ := at_T25 hC1 (cnt : Int) (by omega) (by have := HN.out; omega)
        simp only [Int.toNat_natCast] at x0 x1 x2 x3
        have Y0 : rd_T25 l (cnt : Int) = l.getD cnt z25 := by unfold rd_T25; rw [Int.toNat_natCast]
        rw [Y0] at x0 x1 x2 x3
        clear Y0 hC1
        generalize hy : l.getD cnt z25 = y at x0 x1 x2 x3
        have Y := Aside0.mk hy
        clear hy
        have hc := HC.out y
        go_wp2_with (go_at_fn g; refine (hc _).mono ?_; rintro e w' ⟨rfl, hb⟩)
        all_goals (go_ret2; exact ⟨by rw [← FIN.out, Y.out, ← HN.out]; simp [*]; try (rw [Bool.eq_iff_iff]; simp), below_then S1.out S1.out.size hb⟩)
      · go_wp2
        go_ret2
        exact ⟨by rw [← FIN.out, ← HN.out]; simp [hn], S1.out⟩
abbrev cmpB (a b : ByteArray) : Int := Lib.compareBytes a.data.toList b.data.toList
set_option maxRecDepth 1000000 in
theorem strings_Compare.calls (a b : ByteArray) (w : World) :
    Calls Tryz.prog 27 #[.string a, .string b] w fun e w' => e = .returned (.int .i64 (cmpB a b)) ∧ w = w' := by
  go_enter Tryz.func27, Tryz.ntmps27
  go_wp2
  rw [run_callFunc_extern Tryz.func47 (by kernel_rfl) (by kernel_rfl) (by kernel_rfl) (e := Extern.BytealgCompare.compare) (by kernel_rfl), Lib.run_compareString]
  simp only [Result.andThen]
  rw [Oper.upon_value]
  go_wp2
  go_ret
  exact ⟨rfl, rfl⟩
theorem cb_self : ∀ a : List UInt8, Lib.compareBytes a a = 0
  | [] => rfl
  | a :: al => by
    unfold Lib.compareBytes
    rw [if_neg (by simp), if_neg (by simp)]
    exact cb_self al
theorem cb_eq : ∀ a b : List UInt8, Lib.compareBytes a b = 0 → a = b
  | [], [], _ => rfl
  | [], _ :: _, h => by simp [Lib.compareBytes] at h
  | _ :: _, [], h => by simp [Lib.compareBytes] at h
  | a :: al, b :: bs, h => by
    unfold Lib.compareBytes at h
    split at h
    · cases h
    · split at h
      · cases h
      · rename_i h1 h2
        have : a = b := UInt8.le_antisymm (UInt8.not_lt.1 h2) (UInt8.not_lt.1 h1)
        rw [this, cb_eq al bs h]
theorem cb_anti : ∀ a b : List UInt8, Lib.compareBytes b a = - Lib.compareBytes a b
  | [], [] => rfl
  | [], _ :: _ => rfl
  | _ :: _, [] => rfl
  | a :: al, b :: bs => by
    unfold Lib.compareBytes
    by_cases h1 : a < b
    · rw [if_neg (UInt8.lt_asymm h1), if_pos h1, if_pos h1]
      rfl
    · by_cases h2 : b < a
      · rw [if_pos h2, if_neg h1, if_pos h2]
      · rw [if_neg h2, if_neg h1, if_neg h1, if_neg h2]
        exact cb_anti al bs
theorem cb_trans : ∀ a b c : List UInt8, Lib.compareBytes a b < 0 → Lib.compareBytes b c < 0 → Lib.compareBytes a c < 0
  | [], [], _, h, _ => by simp [Lib.compareBytes] at h
  | [], _ :: _, [], _, h => by simp [Lib.compareBytes] at h
  | [], _ :: _, _ :: _, _, _ => by simp [Lib.compareBytes]
  | _ :: _, [], _, h, _ => by simp [Lib.compareBytes] at h
  | _ :: _, _ :: _, [], _, h => by simp [Lib.compareBytes] at h
  | a :: al, b :: bs, c :: cs, h1, h2 => by
    unfold Lib.compareBytes at h1 h2 ⊢
    by_cases x : a < b
    · by_cases y : b < c
      · rw [if_pos (UInt8.lt_trans x y)]; decide
      · rw [if_neg y] at h2
        by_cases z : c < b
        · rw [if_pos z] at h2; omega
        · have : b = c := UInt8.le_antisymm (UInt8.not_lt.1 z) (UInt8.not_lt.1 y)
          subst this
          rw [if_pos x]; decide
    · rw [if_neg x] at h1
      by_cases x' : b < a
      · rw [if_pos x'] at h1; omega
      · have : a = b := UInt8.le_antisymm (UInt8.not_lt.1 x') (UInt8.not_lt.1 x)
        subst this
        rw [if_neg x] at h1
        by_cases y : a < c
        · rw [if_pos y]; decide
        · rw [if_neg y] at h2 ⊢
          by_cases z : c < a
          · rw [if_pos z] at h2; omega
          · rw [if_neg z] at h2 ⊢
            exact cb_trans al bs cs h1 h2
theorem ba_ext {a b : ByteArray} (h : a.data.toList = b.data.toList) : a = b := by
  cases a; cases b
  simp only [ByteArray.mk.injEq]
  exact Array.toList_inj.1 h
theorem cmpB_self (a : ByteArray) : cmpB a a = 0 := cb_self _
theorem cmpB_eq {a b : ByteArray} (h : cmpB a b = 0) : a = b := ba_ext (cb_eq _ _ h)
theorem cmpB_anti (a b : ByteArray) : cmpB b a = - cmpB a b := cb_anti _ _
theorem cmpB_trans {a b c : ByteArray} (h : cmpB a b < 0) (k : cmpB b c < 0) : cmpB a c < 0 := cb_trans _ _ _ h k
theorem cmp25.calls (x : S25) (s : ByteArray) (W : World) :
    Calls Tryz.prog 26 (#[.agg #[.string x.f0, .bool x.f1.f0, .int .i64 x.f1.f1, .string x.f1.f2], .string s] ++ #[]) W fun e w' => e = .returned (.int .i64 (cmpB x.f0 s)) ∧ Below W.heap.size W w' := by
  have hu25 := Tryz.underlying25
  have hu23 := Tryz.underlying23
  show Calls Tryz.prog 26 #[.agg #[.string x.f0, .bool x.f1.f0, .int .i64 x.f1.f1, .string x.f1.f2], .string s] W _
  go_enter Tryz.func26, Tryz.ntmps26
  go_wp2_with (go_at_call 27; refine (strings_Compare.calls _ _ _).mono ?_; rintro e w' ⟨rfl, rfl⟩)
  go_ret
  exact ⟨rfl, below_alloc (Below.refl _ _) _⟩
/-! ### slices.Grow at nil, slices.Concat -/
set_option maxHeartbeats 4000000 in
set_option maxRecDepth 1000000 in
theorem slices_Grow_nil (w : World) :
    Calls Tryz.prog 41 #[.slice none 0 0, .int .i64 0] w fun e w' => e = .returned (.slice none 0 0) ∧ Below w.heap.size w w' := by
  go_enter Tryz.func41, Tryz.ntmps41
  go_wp2
  go_ret
  exact ⟨rfl, Below.refl _ _⟩
set_option maxHeartbeats 4000000 in
set_option maxRecDepth 1000000 in
theorem slices_Grow_some (n : Nat) (h0 : 0 < n) (hn : n ≤ 1000000) (w : World) :
    Calls Tryz.prog 41 #[.slice none 0 0, .int .i64 n] w fun e w' => ∃ v, e = .returned v ∧ w'.ownsRow w.heap.size 25 4 v 0 [] ∧ Below w.heap.size w w' := by
  obtain ⟨i0, hi0, hz0, hzs, hzb⟩ := info_parts info25
  obtain ⟨G, hG⟩ : ∃ G, G = grownCap w n 0 25 := ⟨_, rfl⟩
  obtain ⟨z, hz⟩ : ∃ z : Value, z = (.agg #[(.string ⟨#[]⟩), (.bool false), (.int .i64 0), (.string ⟨#[]⟩)]) := ⟨_, rfl⟩
  have hzc : z.cells.size = 4 := by rw [hz]; rfl
  rw [← hz] at hz0
  obtain ⟨ROW, hROW⟩ : ∃ ROW : Array Value, ROW = #[] ++ Builtin.zeroCells z.cells n ++ Builtin.zeroCells z.cells (G - n) := ⟨_, rfl⟩
  have hrz : ∀ ty, (Builtin.append_ #[26, 3] ty #[.slice none 0 0, .int .i64 (n : Int)]).run Tryz.prog w =
      .ok (.slice (some ⟨w.heap.size, 0, none⟩) n G) (w.drew.alloc (.cells ROW 25)) := fun ty => by
    have h := Lib.run_append_grow_zeros w 26 3 ty 25 i0 _ .i64 .i64 Tryz.underlying26 Tryz.underlying3 hi0 hz0 none 0 0 [] (by rw [hzs]; exact run_firstCells_none w.drew 4 0 0 0) n (by omega) (by omega) (by omega) (by omega) (by rw [hzb]; omega) (by rw [hzb, Nat.zero_add]; exact growslice_fits (by omega) (by omega))
    rw [Nat.zero_add, ← hG] at h
    rw [hROW]
    exact h
  have hGn : n ≤ G := by rw [hG]; exact grownCap_ge w _ _ _
  have hG63 : G ≤ maxLen := by
    have := grownCap_le_maxLen w n 0 25 (by unfold maxLen; omega)
    rwa [← hG] at this
  have hRl : ROW.size = G * 4 := by
    rw [hROW]
    simp [Builtin.zeroCells, hzc]
    omega
  have HX := Aside0.mk hRl
  have HG := Aside0.mk hG63
  have hG63' : G ≤ 9223372036854775807 := by unfold maxLen at hG63; omega
  have hn1 : decide ((n : Int) > 0) = true := by simp; omega
  have hn2 : decide ((n : Int) < 0) = false := by simp
  have hn3 : decide (0 < n) = true := by simp; omega
  have hGG : (0 : Int) ≤ (G : Int) := by omega
  clear hROW hG hRl hG63
  go_enter Tryz.func41, Tryz.ntmps41
  go_wp2_with (at_builtin; refine Lib.wpList_append_run _ rfl _ _ _ _ rfl _ _ rfl rfl _ _ (hrz _) ?_)
  go_ret
  exact ⟨_, rfl, ⟨by simp, .inr ⟨w.heap.size, G, ROW, rfl, Nat.le_refl _, heap_alloc_new w.drew _, Nat.zero_le _, HG.out, HX.out, by simp⟩⟩, (Below.refl _ _).drew.alloc (by simp) _⟩
/-- How many stand in the first rows. -/
def cc_tot (ls : List (List S25)) (k : Nat) : Nat := (ls.take k).flatten.length
theorem cc_zero (ls : List (List S25)) : cc_tot ls 0 = 0 := by simp [cc_tot]
theorem cc_take (ls : List (List S25)) (k : Nat) (h : k < ls.length) : (ls.take (k + 1)).flatten = (ls.take k).flatten ++ ls.getD k [] := by
  rw [List.take_succ_eq_append_getElem h, List.flatten_append, List.getD_eq_getElem?_getD, List.getElem?_eq_getElem h]; simp
theorem cc_succ (ls : List (List S25)) (k : Nat) (h : k < ls.length) : cc_tot ls (k + 1) = cc_tot ls k + (ls.getD k []).length := by
  unfold cc_tot; rw [cc_take ls k h, List.length_append]
theorem cc_le (ls : List (List S25)) (k : Nat) : cc_tot ls k ≤ ls.flatten.length := by
  unfold cc_tot
  conv => rhs; rw [← List.take_append_drop k ls]
  rw [List.flatten_append, List.length_append]; omega
theorem cc_all (ls : List (List S25)) : cc_tot ls ls.length = ls.flatten.length := by simp [cc_tot]
theorem cc_at {w : World} {A : Option Addr} {n : Nat} {ls : List (List S25)} (h : Kd.C (Kd.slice 25 k25) w A n ls) (k : Nat) (hk : k < n) :
    ∃ ad A0 c0, A = some ad ∧ w.cell? (ad.add k) = some (.slice A0 (ls.getD k []).length c0) ∧ (ls.getD k []).length ≤ c0 ∧ k25.C w A0 (ls.getD k []).length (ls.getD k []) := by
  obtain ⟨ad, c, e, _, hK, hc0⟩ := Kd.C_get h ([] : List S25) (k : Int) (by omega) (by omega)
  have hc : ∀ j u, c[j]? = some u → w.cell? (ad.add ((k : Int).toNat * 1 + j)) = some u := hc0
  rw [Int.toNat_natCast] at hK hc
  obtain ⟨A0, c0, rfl, l0, g0⟩ := hK
  exact ⟨ad, A0, c0, e, by have hq := hc 0 _ rfl; rwa [Nat.mul_one, Nat.add_zero] at hq, l0, g0⟩
theorem k25_KM {w : World} {base : Nat} (x : S25) (cs : List Value) (h : k25.K w x cs) : k25.M w base (fun _ => False) x cs := by
  rw [k25_open h]
  exact k25_mkM w base _ x
set_option maxHeartbeats 8000000 in
set_option maxRecDepth 1000000 in
theorem slices_Concat.calls (A : Option Addr) (c : Nat) (ls : List (List S25)) (w : World) (hr : Kd.C (Kd.slice 25 k25) w A ls.length ls) (hm : ls.length ≤ 1000) (hlen : ls.flatten.length ≤ 100000) :
    Calls Tryz.prog 28 #[.slice A ls.length c] w fun e w' => ∃ v, e = .returned v ∧ Kd.R k25 25 w' w.heap.size (fun _ => True) v ls.flatten ∧ Below w.heap.size w w' := by
  have hu := Tryz.underlying26
  have huu := Tryz.underlying73
  have HR := Aside0.mk hr
  have HL := Aside0.mk hlen
  have S0 := Aside0.mk (Below.refl w.heap.size w)
  obtain ⟨n, hn⟩ : ∃ n, n = ls.length := ⟨_, rfl⟩
  have HN := Aside0.mk hn
  rw [← hn] at hm ⊢
  have hgrow : ∃ m : Nat, Aside0 (m = cc_tot ls n) ∧ m ≤ 100000 := ⟨_, ⟨rfl⟩, by have := cc_le ls n; omega⟩
  obtain ⟨m, HM, hm1⟩ := hgrow
  have G : Calls Tryz.prog 41 #[.slice none 0 0, .int .i64 m] w (fun e w' => ∃ v, e = .returned v ∧ Aside0 (Kd.R k25 25 w' w.heap.size (fun _ => True) v []) ∧ Aside0 (Below w.heap.size w w')) := by
    rcases Nat.eq_zero_or_pos m with h0 | h0
    · subst h0
      refine (slices_Grow_nil w).mono ?_
      rintro e w' ⟨he, hb⟩
      exact ⟨_, he, ⟨Kd.R_nil _ _ _ _ _⟩, ⟨hb⟩⟩
    · refine (slices_Grow_some m h0 (by omega) w).mono ?_
      rintro e w' ⟨v, he, ho, hb⟩
      exact ⟨v, he, ⟨fun _ _ => trivial, [], ho, Reps.none _ _⟩, ⟨hb⟩⟩
  have HG := Aside0.mk G
  clear hr hlen hn G
  go_enter Tryz.func28, Tryz.ntmps28
  go_wp2
  go_loop [3, 11] (fun s i => ∃ k : Nat, k ≤ n ∧ i = .int .i64 k ∧ s = .int .i64 (cc_tot ls k : Nat)) (fun _ i => n - (intOf i).toNat)
  case atStart => exact ⟨0, Nat.zero_le _, rfl, by rw [cc_zero]; rfl⟩
  case round =>
    obtain ⟨k, hk, rfl, rfl⟩ := hrel
    by_cases hlt : k < n
    · obtain ⟨ad, A0, c0, rfl, hcell, hc0, hC⟩ := cc_at HR.out k (by have := HN.out; omega)
      have e1 := cc_succ ls k (by have := HN.out; omega)
      have e2 : cc_tot ls (k + 1) ≤ 100000 := by have := cc_le ls (k + 1); have := HL.out; omega
      have E1 := Aside0.mk e1
      generalize cc_tot ls k = S at *
      generalize (ls.getD k []).length = q at *
      have hq : S + q ≤ 100000 := by omega
      clear e1 e2 hC
      go_wp2
      go_round
      case rel => exact ⟨k + 1, by omega, by go_num, by rw [E1.out]; go_num⟩
      case measure => simp [intOf]; omega
    · obtain rfl : k = n := by omega
      have E3 : cc_tot ls k = m := HM.out.symm
      rw [E3]
      clear E3
      go_wp2_with (go_at_call 41; refine HG.out.mono ?_; rintro e w1 ⟨v, rfl, HV, HB⟩)
      go_loopw [6, 27] (fun v6 i w' => ∃ j : Nat, j ≤ k ∧ i = .int .i64 j ∧ Aside0 (Kd.R k25 25 w' w.heap.size (fun _ => True) v6 (ls.take j).flatten) ∧ Aside0 (Below w.heap.size w w')) (fun _ i _ => k - (intOf i).toNat)
      case atStart => exact ⟨0, Nat.zero_le _, rfl, by simpa using HV, HB⟩
      case round =>
        clear HV HB
        obtain ⟨j, hj, rfl, HV, HB⟩ := hrel
        by_cases hlt : j < k
        · obtain ⟨ad, A0, c0, rfl, hcell0, hc0, hC0⟩ := cc_at HR.out j (by have := HN.out; omega)
          have hcell := (HB.out.cell (World.block_lt_of_cell? w _ hcell0)).trans hcell0
          have hC := Kd.C_below hC0 HB.out
          have hT := cc_take ls j (by have := HN.out; omega)
          have hS : (ls.take j).flatten.length + (ls.getD j []).length ≤ 100000 := by have := cc_le ls (j + 1); unfold cc_tot at this; rw [hT, List.length_append] at this; have := HL.out; omega
          have HT := Aside0.mk hT
          have HC := Aside0.mk hC
          have HS := Aside0.mk hS
          generalize hys : ls.getD j [] = ys at *
          obtain ⟨q, hq⟩ : ∃ q, q = ys.length := ⟨_, rfl⟩
          rw [← hq] at hcell hc0
          have HQ := Aside0.mk hq
          clear hT hC hS hC0 hcell0 hys hq
          go_wp2_with (at_builtin; refine Kd.R_append_rows k25 w.heap.size rfl (.tmp 31) (.tmp 32) 26 25 (.agg #[(.string ⟨#[]⟩), (.bool false), (.int .i64 0), (.string ⟨#[]⟩)]) 48 rfl Tryz.underlying26 info25 rfl (by decide) (by decide) _ (ls.take j).flatten ys A0 q c0 (fun _ => True) (fun _ => False) rfl rfl HV.out (by have := HC.out; rw [HQ.out]; exact this) k25_KM (fun _ h => h.elim) (fun _ _ => trivial) HB.out HB.out.size (by have := HS.out; have := HQ.out; omega) ?_; intro v3 w3 hR3 hb3 hg3 ha3)
          go_roundw
          case rel => exact ⟨j + 1, by omega, by go_num, ⟨by rw [HT.out]; exact hR3⟩, ⟨hb3⟩⟩
          case measure => simp [intOf]; omega
        · obtain rfl : j = k := by omega
          go_wp2
          go_ret
          refine ⟨_, rfl, ?_, HB.out⟩
          have := HV.out
          rw [HN.out, List.take_length] at this
          exact this
end Go.Proofs.YtgdieejhglhkcaaGreatDoor.MTup
