import Derived.Test.YtfabnapjbgamaaaGreatDoorPrBC
namespace Go.Proofs.YtfabnapjbgamaaaGreatDoor.MPred
open Go.RowKit Go.Lib Go.Proofs.YtfabnapjbgamaaaGreatDoorW.PrintWords Go.Proofs.YtfabnapjbgamaaaGreatDoorW.PrintLast Go.Proofs.YtfabnapjbgamaaaGreatDoorW.PrintMore
set_option linter.unusedVariables false
set_option linter.unusedSimpArgs false

abbrev fo_tx : List ByteArray := [(⟨#[]⟩ : ByteArray), (⟨#[120]⟩ : ByteArray), (⟨#[120, 121]⟩ : ByteArray), (⟨#[120, 121, 122]⟩ : ByteArray), (⟨#[120, 122]⟩ : ByteArray), (⟨#[121]⟩ : ByteArray), (⟨#[121, 121]⟩ : ByteArray)]
theorem fo_R_str {w : World} {e base : Nat} {ok : Nat → Prop} {v : Value} {xs : List ByteArray} (h : Kd.R Kd.string e w base ok v xs) (hn : 0 < xs.length) : ∃ g cap, v = .slice (some ⟨g, 0, none⟩) xs.length cap ∧ base ≤ g ∧ ∀ i : Int, 0 ≤ i → i < xs.length → w.cell? ⟨g, i.toNat, none⟩ = some (.string (rdOf ByteArray.empty xs i)) := by
  obtain ⟨inner, ho⟩ := Kd.R_own h
  rcases ho.2 with ⟨rfl, h0⟩ | ⟨g, cap, cur, rfl, hg, hh, _⟩
  · omega
  · exact ⟨g, cap, rfl, hg, fun i h0 h1 => (Kd.R_cell (enc := Value.string) (h1 := fun _ => rfl) ByteArray.empty h i h0 h1).1⟩
theorem fo_up {w : World} {g : Nat} {o : Obj} (h : w.heap[g]? = some o) (o' : Obj) : (w.alloc o').heap[g]? = some o := (Below.heap_alloc w o' g (blk_lt h)).trans h
theorem fo_top (w : World) (o : Obj) {g : Nat} (hg : g = w.heap.size) : (w.alloc o).heap[g]? = some o := by subst hg; exact heap_alloc_new w o
theorem fo_texts (w : World) (B : Nat) (cs : Array Value) (T : TypeId) (h : w.heap[B]? = some (.cells cs T (0, 0))) (r : Int) (r0 : 0 ≤ r) (r1 : r < 7) :
    Calls Tryz.prog 41 #[] w fun e w' => ∃ g cap, e = .returned (.slice (some ⟨g, 0, none⟩) 7 cap) ∧ ¬ (g = B) ∧ ¬ (B = g) ∧ w'.cell? ⟨g, r.toNat, none⟩ = some (.string (rdOf ByteArray.empty fo_tx r)) ∧ w'.heap[B]? = some (.cells cs T (0, 0)) ∧ (∀ (g : Nat) (o : Obj), w.heap[g]? = some o → w'.heap[g]? = some o) ∧ Below w.heap.size w w' := by
  refine (broadsidekeep_texts.calls _ _ rfl).mono ?_
  rintro e w' ⟨v, rfl, hR, hb⟩
  obtain ⟨g, cap, rfl, hg, hc⟩ := fo_R_str hR (by simp)
  have hl := blk_lt h
  exact ⟨g, cap, rfl, by omega, by omega, hc r r0 (by simpa using r1), (hb.block B hl).trans h, fun g o h => (hb.block g (blk_lt h)).trans h, hb⟩
theorem fo_tmod (x h : Int) (h0 : 0 ≤ h) : -(h + 1) < x.tmod (h + 1) := by
  have := Int.tmod_lt_of_pos (-x) (b := h + 1) (by omega)
  rw [Int.neg_tmod] at this
  omega
theorem fo_within (x h : Int) (h0 : 0 ≤ h) (h1 : h ≤ 1000) : broadsidebook_Within.f x 0 h = some (x % (h + 1)) := by
  have e1 : wrap64 (wrap64 (h - 0) + 1) = h + 1 := by unfold wrap64; omega
  have ha := Int.tmod_lt_of_pos x (b := h + 1) (by omega)
  have hb := fo_tmod x h h0
  unfold broadsidebook_Within.f
  rw [e1, if_neg (by omega)]
  have em : x % (h + 1) = if x.tmod (h + 1) < 0 then x.tmod (h + 1) + h + 1 else x.tmod (h + 1) := by
    have hd := Int.tmod_add_mul_tdiv x (h + 1)
    split
    · rename_i hn
      have : x = (x.tmod (h + 1) + h + 1) + (h + 1) * (x.tdiv (h + 1) - 1) := by rw [Int.mul_sub]; omega
      rw [this, Int.add_mul_emod_self_left]
      rw [← this]
      exact Int.emod_eq_of_lt (by omega) (by omega)
    · rename_i hn
      have : x = x.tmod (h + 1) + (h + 1) * x.tdiv (h + 1) := by omega
      conv => lhs; rw [this, Int.add_mul_emod_self_left]
      exact Int.emod_eq_of_lt (by omega) (by omega)
  rw [em]
  split
  · congr 1; unfold wrap64; omega
  · congr 1; unfold wrap64; omega
def broadsidekeep_Constraint.f (a0 : ByteArray) (a1 : Int) : Option (ByteArray × Int × Int × Int × ByteArray) :=
  (broadsidebook_Within.f a1 0 3).bind fun t => if t = 0 ∨ t = 1 then
    (broadsidebook_Within.f (wrap64 (Int.tdiv a1 4)) 0 9).bind fun lo => (broadsidebook_Within.f (wrap64 (Int.tdiv a1 40)) 0 9).bind fun hi => some (a0, 1, lo, lo + hi, (⟨#[]⟩ : ByteArray))
  else (broadsidebook_Within.f (wrap64 (Int.tdiv a1 4)) 0 6).bind fun r => some (a0, if t = 2 then 2 else 3, 0, 0, rdOf ByteArray.empty fo_tx r)

set_option maxHeartbeats 4000000 in
set_option maxRecDepth 100000 in
theorem broadsidekeep_Constraint.text2 (a0 : ByteArray) (n t r : Int) (w : World) (hW1 : Aside0 (broadsidebook_Within.f n 0 3 = some t)) (h0 : (t == 0) = false) (h1 : (t == 1) = false) (h2 : (t == 2) = true)
   (q : Int) (hq : IntKind.i64.wrap (Int.tdiv n 4) = q) (hW2 : Aside0 (broadsidebook_Within.f q 0 6 = some r)) (r0 : 0 ≤ r) (r1 : r < 7) (s : ByteArray) (hs : Aside0 (s = rdOf ByteArray.empty fo_tx r)) :
    Calls Tryz.prog 17 #[.string a0, .int .i64 n] w fun e w' => e = .returned (.agg #[.string a0, .int .i64 2, .int .i64 0, .int .i64 0, .string s]) ∧ Below w.heap.size w w' := by
  have hu23 := Tryz.underlying23
  have r0' : decide (0 ≤ r) = true := by simpa using r0
  have r1' : decide (r < 7) = true := by simpa using r1
  go_enter Tryz.func17, Tryz.ntmps17
  go_wp2_with (go_at_call 18; refine (broadsidebook_Within.calls _ _ _ _ _ hW1.out).mono ?_; rintro e w1 ⟨rfl, ⟨⟨m1, rfl⟩⟩⟩)
  go_region_with ((first | (go_at_call 18; with_reducible refine (broadsidebook_Within.calls _ _ _ _ _ hW2.out).mono ?_; rintro e w2 ⟨rfl, ⟨⟨m2, rfl⟩⟩⟩) | (go_at_call 41; refine (fo_texts _ (w.heap.size + 1) #[.string a0, .int .i64 0, .int .i64 0, .int .i64 0, .string ⟨#[]⟩] 23 (by exact fo_top (w.alloc _) _ (by simp)) r r0 r1).mono ?_; rintro e w3 ⟨g3, q3, rfl, hg1, hg2, hcl, B3, hold, hb⟩; rw [← hs.out] at hcl; have c3 := fun i => blk_cell B3 i; have f3 := fun i => blk_frozen B3 i; have B4 := hold w.heap.size (.cells #[.string ⟨#[]⟩, .int .i64 0, .int .i64 0, .int .i64 0, .string ⟨#[]⟩] 23) (by exact fo_up (fo_top _ _ rfl) _); have c4 := fun i => blk_cell B4 i; have f4 := fun i => blk_frozen B4 i; have HB := Aside0.mk hb; clear B3 B4 hold hb)))
  all_goals (
    go_wp2
    refine bodyPost_ret (v := .agg #[.string a0, .int .i64 2, .int .i64 0, .int .i64 0, .string s]) (by simp [results, Tryz.results17, go_sem, c4]) rfl ⟨rfl, ?_⟩
    have hB := HB.out
    have s1 := hB.size
    simp at s1
    have HB2 := Aside0.mk (below_then (w := w) (by repeat (with_reducible first | exact Below.refl _ _ | apply below_alloc | apply below_drew1 | apply pw_below_drewN)) (by simp; omega) hB)
    clear hB HB
    repeat (with_reducible first | exact HB2.out | apply below_alloc | apply pw_below_drewN | apply below_drew1 | refine below_set ?_ (by omega)))

set_option maxHeartbeats 4000000 in
set_option maxRecDepth 100000 in
theorem broadsidekeep_Constraint.text3 (a0 : ByteArray) (n t r : Int) (w : World) (hW1 : Aside0 (broadsidebook_Within.f n 0 3 = some t)) (h0 : (t == 0) = false) (h1 : (t == 1) = false) (h2 : (t == 2) = false)
   (q : Int) (hq : IntKind.i64.wrap (Int.tdiv n 4) = q) (hW2 : Aside0 (broadsidebook_Within.f q 0 6 = some r)) (r0 : 0 ≤ r) (r1 : r < 7) (s : ByteArray) (hs : Aside0 (s = rdOf ByteArray.empty fo_tx r)) :
    Calls Tryz.prog 17 #[.string a0, .int .i64 n] w fun e w' => e = .returned (.agg #[.string a0, .int .i64 3, .int .i64 0, .int .i64 0, .string s]) ∧ Below w.heap.size w w' := by
  have hu23 := Tryz.underlying23
  have r0' : decide (0 ≤ r) = true := by simpa using r0
  have r1' : decide (r < 7) = true := by simpa using r1
  go_enter Tryz.func17, Tryz.ntmps17
  go_wp2_with (go_at_call 18; refine (broadsidebook_Within.calls _ _ _ _ _ hW1.out).mono ?_; rintro e w1 ⟨rfl, ⟨⟨m1, rfl⟩⟩⟩)
  go_region_with ((first | (go_at_call 18; with_reducible refine (broadsidebook_Within.calls _ _ _ _ _ hW2.out).mono ?_; rintro e w2 ⟨rfl, ⟨⟨m2, rfl⟩⟩⟩) | (go_at_call 41; refine (fo_texts _ (w.heap.size + 1) #[.string a0, .int .i64 0, .int .i64 0, .int .i64 0, .string ⟨#[]⟩] 23 (by exact fo_top (w.alloc _) _ (by simp)) r r0 r1).mono ?_; rintro e w3 ⟨g3, q3, rfl, hg1, hg2, hcl, B3, hold, hb⟩; rw [← hs.out] at hcl; have c3 := fun i => blk_cell B3 i; have f3 := fun i => blk_frozen B3 i; have B4 := hold w.heap.size (.cells #[.string ⟨#[]⟩, .int .i64 0, .int .i64 0, .int .i64 0, .string ⟨#[]⟩] 23) (by exact fo_up (fo_top _ _ rfl) _); have c4 := fun i => blk_cell B4 i; have f4 := fun i => blk_frozen B4 i; have HB := Aside0.mk hb; clear B3 B4 hold hb)))
  all_goals (
    go_wp2
    refine bodyPost_ret (v := .agg #[.string a0, .int .i64 3, .int .i64 0, .int .i64 0, .string s]) (by simp [results, Tryz.results17, go_sem, c4]) rfl ⟨rfl, ?_⟩
    have hB := HB.out
    have s1 := hB.size
    simp at s1
    have HB2 := Aside0.mk (below_then (w := w) (by repeat (with_reducible first | exact Below.refl _ _ | apply below_alloc | apply below_drew1 | apply pw_below_drewN)) (by simp; omega) hB)
    clear hB HB
    repeat (with_reducible first | exact HB2.out | apply below_alloc | apply pw_below_drewN | apply below_drew1 | refine below_set ?_ (by omega)))

set_option maxHeartbeats 4000000 in
set_option maxRecDepth 100000 in
theorem broadsidekeep_Constraint.range0 (a0 : ByteArray) (n t : Int) (w : World) (hW1 : Aside0 (broadsidebook_Within.f n 0 3 = some t)) (h0 : (t == 0) = true)
   (q4 q40 lo hi : Int) (hq4 : IntKind.i64.wrap (Int.tdiv n 4) = q4) (hq4' : wrap64 (Int.tdiv n 4) = q4) (hq40 : IntKind.i64.wrap (Int.tdiv n 40) = q40) (hW2 : Aside0 (broadsidebook_Within.f q4 0 9 = some lo)) (hW3 : Aside0 (broadsidebook_Within.f q40 0 9 = some hi)) (hs : IntKind.i64.wrap (lo + hi) = lo + hi) :
    Calls Tryz.prog 17 #[.string a0, .int .i64 n] w fun e w' => e = .returned (.agg #[.string a0, .int .i64 1, .int .i64 lo, .int .i64 (lo + hi), .string ⟨#[]⟩]) ∧ Below w.heap.size w w' := by
  have hu23 := Tryz.underlying23
  go_enter Tryz.func17, Tryz.ntmps17
  go_wp2_with (first | (go_at_call 18; with_reducible refine (broadsidebook_Within.calls _ _ _ _ _ hW1.out).mono ?_; rintro e w1 ⟨rfl, ⟨⟨m1, rfl⟩⟩⟩) | (go_at_call 18; with_reducible refine (broadsidebook_Within.calls _ _ _ _ _ hW2.out).mono ?_; rintro e w1 ⟨rfl, ⟨⟨m1, rfl⟩⟩⟩))
  go_region_with ((go_at_call 18; with_reducible refine (broadsidebook_Within.calls _ _ _ _ _ hW3.out).mono ?_; rintro e w2 ⟨rfl, ⟨⟨m2, rfl⟩⟩⟩))
  all_goals (
    go_wp2
    refine bodyPost_ret (v := .agg #[.string a0, .int .i64 1, .int .i64 lo, .int .i64 (lo + hi), .string ⟨#[]⟩]) (by simp [results, Tryz.results17, go_sem]) rfl ⟨rfl, ?_⟩
    repeat (with_reducible first | exact Below.refl _ _ | apply below_alloc | apply pw_below_drewN | apply below_drew1 | refine below_set ?_ (by omega)))

set_option maxHeartbeats 4000000 in
set_option maxRecDepth 100000 in
theorem broadsidekeep_Constraint.range1 (a0 : ByteArray) (n t : Int) (w : World) (hW1 : Aside0 (broadsidebook_Within.f n 0 3 = some t)) (h0 : (t == 0) = false) (h1 : (t == 1) = true)
   (q4 q40 lo hi : Int) (hq4 : IntKind.i64.wrap (Int.tdiv n 4) = q4) (hq4' : wrap64 (Int.tdiv n 4) = q4) (hq40 : IntKind.i64.wrap (Int.tdiv n 40) = q40) (hW2 : Aside0 (broadsidebook_Within.f q4 0 9 = some lo)) (hW3 : Aside0 (broadsidebook_Within.f q40 0 9 = some hi)) (hs : IntKind.i64.wrap (lo + hi) = lo + hi) :
    Calls Tryz.prog 17 #[.string a0, .int .i64 n] w fun e w' => e = .returned (.agg #[.string a0, .int .i64 1, .int .i64 lo, .int .i64 (lo + hi), .string ⟨#[]⟩]) ∧ Below w.heap.size w w' := by
  have hu23 := Tryz.underlying23
  go_enter Tryz.func17, Tryz.ntmps17
  go_wp2_with (first | (go_at_call 18; with_reducible refine (broadsidebook_Within.calls _ _ _ _ _ hW1.out).mono ?_; rintro e w1 ⟨rfl, ⟨⟨m1, rfl⟩⟩⟩) | (go_at_call 18; with_reducible refine (broadsidebook_Within.calls _ _ _ _ _ hW2.out).mono ?_; rintro e w1 ⟨rfl, ⟨⟨m1, rfl⟩⟩⟩))
  go_region_with ((go_at_call 18; with_reducible refine (broadsidebook_Within.calls _ _ _ _ _ hW3.out).mono ?_; rintro e w2 ⟨rfl, ⟨⟨m2, rfl⟩⟩⟩))
  all_goals (
    go_wp2
    refine bodyPost_ret (v := .agg #[.string a0, .int .i64 1, .int .i64 lo, .int .i64 (lo + hi), .string ⟨#[]⟩]) (by simp [results, Tryz.results17, go_sem]) rfl ⟨rfl, ?_⟩
    repeat (with_reducible first | exact Below.refl _ _ | apply below_alloc | apply pw_below_drewN | apply below_drew1 | refine below_set ?_ (by omega)))

theorem broadsidekeep_Constraint.calls (a0 : ByteArray) (a1 : Int) (r1 : ByteArray) (r2 : Int) (r3 : Int) (r4 : Int) (r5 : ByteArray) (w : World) (h : broadsidekeep_Constraint.f a0 a1 = some (r1, r2, r3, r4, r5)) :
    Calls Tryz.prog 17 #[.string a0, .int .i64 a1] w fun e w' => e = .returned (.agg #[.string r1, .int .i64 r2, .int .i64 r3, .int .i64 r4, .string r5]) ∧ Below w.heap.size w w' := by
  unfold broadsidekeep_Constraint.f at h
  have hW1 := fo_within a1 3 (by omega) (by omega)
  have hb1 := Int.emod_nonneg a1 (show (3 + 1 : Int) ≠ 0 by omega)
  have hb2 := Int.emod_lt_of_pos a1 (show (0 : Int) < 3 + 1 by omega)
  rw [hW1] at h
  simp only [Option.bind_some] at h
  generalize a1 % (3 + 1) = t at h hW1 hb1 hb2
  by_cases ht : t = 0 ∨ t = 1
  · rw [if_pos ht] at h
    have hW2 := fo_within (wrap64 (Int.tdiv a1 4)) 9 (by omega) (by omega)
    have hW3 := fo_within (wrap64 (Int.tdiv a1 40)) 9 (by omega) (by omega)
    have l1 := Int.emod_nonneg (wrap64 (Int.tdiv a1 4)) (show (9 + 1 : Int) ≠ 0 by omega)
    have l2 := Int.emod_lt_of_pos (wrap64 (Int.tdiv a1 4)) (show (0 : Int) < 9 + 1 by omega)
    have u1 := Int.emod_nonneg (wrap64 (Int.tdiv a1 40)) (show (9 + 1 : Int) ≠ 0 by omega)
    have u2 := Int.emod_lt_of_pos (wrap64 (Int.tdiv a1 40)) (show (0 : Int) < 9 + 1 by omega)
    rw [hW2, hW3] at h
    simp only [Option.bind_some, Option.some.injEq, Prod.mk.injEq] at h
    obtain ⟨rfl, rfl, rfl, rfl, rfl⟩ := h
    have hs : IntKind.i64.wrap (wrap64 (Int.tdiv a1 4) % (9 + 1) + wrap64 (Int.tdiv a1 40) % (9 + 1)) = wrap64 (Int.tdiv a1 4) % (9 + 1) + wrap64 (Int.tdiv a1 40) % (9 + 1) := IntWalk.i64_in _ (by omega)
    by_cases h0 : t = 0
    · exact broadsidekeep_Constraint.range0 _ _ t w ⟨hW1⟩ (by simpa using h0) _ _ _ _ (IntWalk.i64_left _) rfl (IntWalk.i64_left _) ⟨hW2⟩ ⟨hW3⟩ hs
    · exact broadsidekeep_Constraint.range1 _ _ t w ⟨hW1⟩ (by simpa using h0) (by have := ht.resolve_left h0; simpa using this) _ _ _ _ (IntWalk.i64_left _) rfl (IntWalk.i64_left _) ⟨hW2⟩ ⟨hW3⟩ hs
  · rw [if_neg ht] at h
    have hW2 := fo_within (wrap64 (Int.tdiv a1 4)) 6 (by omega) (by omega)
    have l1 := Int.emod_nonneg (wrap64 (Int.tdiv a1 4)) (show (6 + 1 : Int) ≠ 0 by omega)
    have l2 := Int.emod_lt_of_pos (wrap64 (Int.tdiv a1 4)) (show (0 : Int) < 6 + 1 by omega)
    rw [hW2] at h
    simp only [Option.bind_some, Option.some.injEq, Prod.mk.injEq] at h
    obtain ⟨rfl, rfl, rfl, rfl, rfl⟩ := h
    by_cases h2 : t = 2
    · rw [if_pos h2]
      exact broadsidekeep_Constraint.text2 _ _ t _ w ⟨hW1⟩ (by simp; omega) (by simp; omega) (by simpa using h2) _ (IntWalk.i64_left _) ⟨hW2⟩ l1 (by omega) _ ⟨rfl⟩
    · rw [if_neg h2]
      exact broadsidekeep_Constraint.text3 _ _ t _ w ⟨hW1⟩ (by simp; omega) (by simp; omega) (by simpa using h2) _ (IntWalk.i64_left _) ⟨hW2⟩ l1 (by omega) _ ⟨rfl⟩

end Go.Proofs.YtfabnapjbgamaaaGreatDoor.MPred
