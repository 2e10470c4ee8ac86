import Derived.Test.YtfkkefhijhjaaaaDoorGrO
import Derived.Test.YtfkkefhijhjaaaaDoorGrD
namespace Go.Proofs.YtfkkefhijhjaaaaDoor.Gr
open Go.RowKit Go.Proofs.YtfkkefhijhjaaaaDoorW.PrintWords Go.Proofs.YtfkkefhijhjaaaaDoorW.PrintLast Go.Proofs.YtfkkefhijhjaaaaDoorW.PrintMore
open Go.Proofs.YtfkkefhijhjaaaaDoor.Er (Err)
set_option linter.unusedVariables false
set_option linter.unusedSimpArgs false
/-! ### the three brokers of chapter 6's runs -/
def ls3 : List (Int × Int) := [(0, 1), (1, 2), (2, 0)]
theorem adj3 (x y : Int) : Adj 3 ls3 x y ↔ (x = 0 ∨ x = 1 ∨ x = 2) ∧ (y = 0 ∨ y = 1 ∨ y = 2) ∧ x ≠ y := by
  constructor
  · intro h
    have := h.rng
    omega
  · rintro ⟨h1, h2, h3⟩
    unfold Adj ls3
    rcases h1 with rfl | rfl | rfl <;> rcases h2 with rfl | rfl | rfl
    · exact absurd rfl h3
    · exact ⟨(0, 1), by simp, by decide, Or.inl rfl⟩
    · exact ⟨(2, 0), by simp, by decide, Or.inr rfl⟩
    · exact ⟨(0, 1), by simp, by decide, Or.inr rfl⟩
    · exact absurd rfl h3
    · exact ⟨(1, 2), by simp, by decide, Or.inl rfl⟩
    · exact ⟨(2, 0), by simp, by decide, Or.inl rfl⟩
    · exact ⟨(1, 2), by simp, by decide, Or.inr rfl⟩
    · exact absurd rfl h3
theorem right3 : Right 3 ls3 where
  n1 := by decide
  n2 := by decide
  len := by decide
  ok := by intro l hl; simp [ls3] at hl; rcases hl with rfl | rfl | rfl <;> decide
  once := by unfold Once ls3 swap; simp
  conn v h0 h1 := by
    have h : v = 0 ∨ v = 1 ∨ v = 2 := by omega
    rcases h with rfl | rfl | rfl
    · exact ⟨0, Dist.self⟩
    · exact ⟨1, Dist.one.mpr ⟨(adj3 0 1).mpr (by omega), by omega⟩⟩
    · exact ⟨1, Dist.one.mpr ⟨(adj3 0 2).mpr (by omega), by omega⟩⟩
theorem near3 {l : List Int} (h : IsNear 3 ls3 1 l) : l = [0, 2] := by
  refine h.uniq (ls' := ls3) (N := 3) ⟨by simp, fun x => ?_⟩ (fun _ => Iff.rfl)
  rw [adj3]
  simp
  omega
theorem near3' : IsNear 3 ls3 1 [0, 2] := ⟨by simp, fun x => by rw [adj3]; simp; omega⟩
theorem far3 {r : Int} (h : FarIs 3 ls3 0 2 r) : r = 1 := by
  obtain ⟨d, hd, rfl⟩ := right3.far (x := 0) (y := 2) (by omega) (by omega) h
  have := hd.uniq (Dist.one.mpr ⟨(adj3 0 2).mpr (by omega), by omega⟩)
  omega
theorem ways3 {l : List (Int × Int)} (h : IsWays 3 ls3 l) : l.length = 6 := h.len right3.ok right3.once
theorem told3 {r : Option Int} (h : Told 3 ls3 r) : r = none := h.right.mpr right3
theorem told4 {r : Option Int} (h : Told 4 ls3 r) : r = some (-1) := h.uniq (bad_alone right3)
theorem told4' : Told 4 ls3 (some (-1)) := bad_alone right3
theorem C_three (w : World) : Kd.C k24 (w.alloc (.cells #[vI 0, vI 1, vI 1, vI 2, vI 2, vI 0] 24)) (some ⟨w.heap.size, 0, none⟩) 3 ls3 :=
  (Kd.R_reads' (R_lit24 w 0 (Nat.zero_le _) ls3 (by decide) #[vI 0, vI 1, vI 1, vI 2, vI 2, vI 0] (by
    unfold ls3
    apply Array.ext
    · simp [Go.Sort.flatK]
    · intro i h1 h2
      have h3 : i = 0 ∨ i = 1 ∨ i = 2 ∨ i = 3 ∨ i = 4 ∨ i = 5 := by simp at h1; omega
      rcases h3 with rfl | rfl | rfl | rfl | rfl | rfl <;> simp [Go.Sort.flatK, enc2]))).2.2
theorem kind_e (g : Nat) (i : Int) (w : World) (ht : Er.Typ w) (h : errOk w g (some i)) : Calls Tryd.prog 15 #[.iface 86 (.pointer (some ⟨g, 0, none⟩))] w fun ev w' => ev = .returned (.int .i64 2) ∧ Below w.heap.size w w' := Er.kind_any _ w ht h
theorem place_e (g : Nat) (i : Int) (w : World) (ht : Er.Typ w) (h : errOk w g (some i)) : Calls Tryd.prog 16 #[.iface 86 (.pointer (some ⟨g, 0, none⟩))] w fun ev w' => ev = .returned (.int .i64 i) ∧ Below w.heap.size w w' := Er.place_any _ w ht h
theorem check_nil (N : Int) (A : Option Addr) (n c : Nat) (ls : List (Int × Int)) (w : World) (hr : Kd.C k24 w A n ls) (hc : n ≤ c) (hR : Right N ls) :
    Calls Tryd.prog 25 #[.agg #[.int .i64 N, .slice A n c]] w fun e w' => e = .returned .nilIface ∧ Below w.heap.size w w' := by
  have hn := Kd.C_len hr
  subst hn
  refine (check_calls N A c ls w hr hc (by have := hR.len; omega) (by have := hR.n2; omega)).mono ?_
  rintro e w' ⟨r, g, rfl, hT, hE, hB⟩
  obtain rfl := hT.right.mpr hR
  exact ⟨rfl, hB⟩
theorem check_at (N : Int) (A : Option Addr) (n c : Nat) (ls : List (Int × Int)) (w : World) (i : Int) (hr : Kd.C k24 w A n ls) (hc : n ≤ c) (hl : n ≤ 1000000) (hN : N ≤ 1000000) (hR : Told N ls (some i)) :
    Calls Tryd.prog 25 #[.agg #[.int .i64 N, .slice A n c]] w fun e w' => ∃ g, e = .returned (.iface 86 (.pointer (some ⟨g, 0, none⟩))) ∧ errOk w' g (some i) ∧ Below w.heap.size w w' := by
  have hn := Kd.C_len hr
  subst hn
  refine (check_calls N A c ls w hr hc hl hN).mono ?_
  rintro e w' ⟨r, g, rfl, hT, hE, hB⟩
  obtain rfl := hT.uniq hR
  exact ⟨g, rfl, hE, hB⟩
theorem near_at (N b : Int) (A : Option Addr) (n c : Nat) (ls : List (Int × Int)) (w : World) (l : List Int) (hr : Kd.C k24 w A n ls) (hc : n ≤ c) (hl : n ≤ 1000000) (h : IsNear N ls b l) :
    Calls Tryd.prog 27 #[.agg #[.int .i64 N, .slice A n c], .int .i64 b] w fun e w' => ∃ (A2 : Option Addr) (c2 : Nat), e = .returned (.slice A2 l.length c2) ∧ Kd.R (Kd.int .i64) 3 w' w.heap.size (fun _ => True) (.slice A2 l.length c2) l ∧ Below w.heap.size w w' := by
  have hn := Kd.C_len hr
  subst hn
  refine (near_ex N b A c ls w hr hc hl).mono ?_
  rintro e w' ⟨nb, A2, k, c2, rfl, HN⟩
  obtain ⟨h1, rfl, hR, hB⟩ := HN.out
  have e1 : nb = l := by rw [h1]; exact (near_is N ls b).uniq h (fun _ => Iff.rfl)
  subst e1
  exact ⟨A2, c2, rfl, hR, hB⟩
theorem ways_at (N : Int) (A : Option Addr) (n c : Nat) (ls : List (Int × Int)) (w : World) (hr : Kd.C k24 w A n ls) (hc : n ≤ c) (hR : Right N ls) :
    Calls Tryd.prog 19 #[.agg #[.int .i64 N, .slice A n c]] w fun e w' => ∃ (l : List (Int × Int)) (A2 : Option Addr) (c2 : Nat), e = .returned (.slice A2 l.length c2) ∧ IsWays N ls l ∧ k24.R 24 w' w.heap.size (fun _ => True) (.slice A2 l.length c2) l ∧ Below w.heap.size w w' := by
  have hn := Kd.C_len hr
  subst hn
  refine (ways_calls N A c ls w hr hc (by have := hR.len; omega) (by have := hR.n2; omega) hR.ok hR.once).mono ?_
  rintro e w' ⟨l, v, rfl, hW, hO, hB⟩
  obtain ⟨A2, c2, rfl⟩ := Kd.R_slice hO
  exact ⟨l, A2, c2, rfl, hW, hO, hB⟩
theorem far_at (N x y : Int) (A : Option Addr) (n c : Nat) (ls : List (Int × Int)) (w : World) (hr : Kd.C k24 w A n ls) (hc : n ≤ c) (hl : n ≤ 1000000) (hN : N ≤ 1000000) :
    Calls Tryd.prog 28 #[.agg #[.int .i64 N, .slice A n c], .int .i64 x, .int .i64 y] w fun e w' => ∃ r, e = .returned (.int .i64 r) ∧ FarIs N ls x y r ∧ Below w.heap.size w w' := by
  have hn := Kd.C_len hr
  subst hn
  exact far_calls N x y A c ls w hr hc hl hN
theorem R_ints (w : World) (base : Nat) (hb : base ≤ w.heap.size) (xs : List Int) (hx : xs.length ≤ 1000) (cs : Array Value) (hcs : cs = (xs.map vI).toArray) : (Kd.int .i64).R 3 (w.alloc (.cells cs 3)) base (fun _ => True) (.slice (some ⟨w.heap.size, 0, none⟩) xs.length xs.length) xs :=
  R_of_own ⟨by simp, .inr ⟨w.heap.size, xs.length, cs, rfl, hb, heap_alloc_new w _, Nat.le_refl _, by unfold maxLen; omega, by rw [hcs]; simp, by rw [hcs]; simp; rw [List.take_of_length_le (by simp)]⟩⟩
theorem errOk_below {w w' : World} {g : Nat} : ∀ {r : Option Int}, errOk w g r → Below w.heap.size w w' → errOk w' g r
  | none, _, _ => trivial
  | some _, h, hb => Er.Err.okBelow hb h
theorem C_02 (w : World) : Kd.C (Kd.int .i64) (w.alloc (.cells #[.int .i64 0, .int .i64 2] 3)) (some ⟨w.heap.size, 0, none⟩) 2 [0, 2] := (Kd.R_reads' (R_ints w 0 (Nat.zero_le _) [0, 2] (by decide) #[vI 0, vI 2] rfl)).2.2
set_option maxHeartbeats 8000000 in
set_option maxRecDepth 100000 in
theorem runs_calls (w : World) (ht : Er.Typ w) : Calls Tryd.prog 6 #[] w fun e w' => e = .returned (.bool true) ∧ Below w.heap.size w w' := by
  have HT := Aside0.mk ht
  clear ht
  go_enter Tryd.func6, Tryd.ntmps6
  go_upto_region 4 with (fail)
  have hA : Below w.heap.size w (((w.alloc (Obj.cells #[vI 0, vI 1, vI 1, vI 2, vI 2, vI 0] 24)).alloc (Obj.cells #[.int .i64 3, .slice (some ⟨w.heap.size, 0, none⟩) 3 3] 27)).alloc (Obj.cells #[.int .i64 4, .slice (some ⟨w.heap.size, 0, none⟩) 3 3] 27)) := by repeat (first | exact Below.refl _ _ | apply below_alloc)
  have hC : Kd.C k24 (((w.alloc (Obj.cells #[vI 0, vI 1, vI 1, vI 2, vI 2, vI 0] 24)).alloc (Obj.cells #[.int .i64 3, .slice (some ⟨w.heap.size, 0, none⟩) 3 3] 27)).alloc (Obj.cells #[.int .i64 4, .slice (some ⟨w.heap.size, 0, none⟩) 3 3] 27)) (some ⟨w.heap.size, 0, none⟩) 3 ls3 := Kd.C_alloc (Kd.C_alloc (C_three w) _) _
  have h1 : (((w.alloc (Obj.cells #[vI 0, vI 1, vI 1, vI 2, vI 2, vI 0] 24)).alloc (Obj.cells #[.int .i64 3, .slice (some ⟨w.heap.size, 0, none⟩) 3 3] 27)).alloc (Obj.cells #[.int .i64 4, .slice (some ⟨w.heap.size, 0, none⟩) 3 3] 27)).heap[w.heap.size + 1]? = some (.cells #[.int .i64 3, .slice (some ⟨w.heap.size, 0, none⟩) 3 3] 27 (0, 0)) := by
    rw [Below.heap_alloc _ _ _ (by simp)]
    simpa using heap_alloc_new (w.alloc (Obj.cells #[vI 0, vI 1, vI 1, vI 2, vI 2, vI 0] 24)) (Obj.cells #[.int .i64 3, .slice (some ⟨w.heap.size, 0, none⟩) 3 3] 27)
  have h2 : (((w.alloc (Obj.cells #[vI 0, vI 1, vI 1, vI 2, vI 2, vI 0] 24)).alloc (Obj.cells #[.int .i64 3, .slice (some ⟨w.heap.size, 0, none⟩) 3 3] 27)).alloc (Obj.cells #[.int .i64 4, .slice (some ⟨w.heap.size, 0, none⟩) 3 3] 27)).heap[w.heap.size + 1 + 1]? = some (.cells #[.int .i64 4, .slice (some ⟨w.heap.size, 0, none⟩) 3 3] 27 (0, 0)) := by
    simpa using heap_alloc_new ((w.alloc (Obj.cells #[vI 0, vI 1, vI 1, vI 2, vI 2, vI 0] 24)).alloc (Obj.cells #[.int .i64 3, .slice (some ⟨w.heap.size, 0, none⟩) 3 3] 27)) (Obj.cells #[.int .i64 4, .slice (some ⟨w.heap.size, 0, none⟩) 3 3] 27)
  generalize ((w.alloc (Obj.cells #[vI 0, vI 1, vI 1, vI 2, vI 2, vI 0] 24)).alloc (Obj.cells #[.int .i64 3, .slice (some ⟨w.heap.size, 0, none⟩) 3 3] 27)).alloc (Obj.cells #[.int .i64 4, .slice (some ⟨w.heap.size, 0, none⟩) 3 3] 27) = W0 at hA hC h1 h2 ⊢
  have HA := Aside0.mk hA
  have LD : Aside0 (∀ w', Below W0.heap.size W0 w' → w'.cell? ⟨w.heap.size + 1, 0, none⟩ = some (.int .i64 3) ∧ w'.cell? ⟨w.heap.size + 1, 1, none⟩ = some (.slice (some ⟨w.heap.size, 0, none⟩) 3 3) ∧ Kd.C k24 w' (some ⟨w.heap.size, 0, none⟩) 3 ls3 ∧ Er.Typ w') :=
    ⟨fun w' h => ⟨(h.cell (blk_lt h1)).trans ((blk_cell h1 0).trans rfl), (h.cell (blk_lt h1)).trans ((blk_cell h1 1).trans rfl), Kd.C_below hC h, (HT.out.below HA.out).below h⟩⟩
  have c0 : W0.cell? ⟨w.heap.size + 1 + 1, 0, none⟩ = some (.int .i64 4) := (blk_cell h2 0).trans rfl
  have c1 : W0.cell? ⟨w.heap.size + 1 + 1, 1, none⟩ = some (.slice (some ⟨w.heap.size, 0, none⟩) 3 3) := (blk_cell h2 1).trans rfl
  have HB := Aside0.mk (Below.refl W0.heap.size W0)
  clear hA hC h1 h2
  go_wp2_with (first
    | (go_at_call 25; (with_reducible refine (check_at 4 _ 3 3 ls3 _ (-1) (LD.out _ HB.out).2.2.1 (by omega) (by omega) (by omega) told4').mono ?_); rintro e w1 ⟨g, rfl, hE, hb⟩; have HE := Aside0.mk hE; have HBn := Aside0.mk (below_step HB.out hb); clear HB c0 c1; have HB := HBn; clear HBn hE hb; have c0 := (LD.out _ HB.out).1; have c1 := (LD.out _ HB.out).2.1)
    | (go_at_call 25; (with_reducible refine (check_nil 3 _ 3 3 ls3 _ (LD.out _ HB.out).2.2.1 (by omega) right3).mono ?_); rintro e w2 ⟨rfl, hb⟩; have HEn := Aside0.mk (errOk_below HE.out hb); clear HE; have HE := HEn; clear HEn; have HBn := Aside0.mk (below_step HB.out hb); clear HB c0 c1; have HB := HBn; clear HBn hb; have c0 := (LD.out _ HB.out).1; have c1 := (LD.out _ HB.out).2.1)
    | (go_at_call 27; (with_reducible refine (near_at 3 1 _ 3 3 ls3 _ [0, 2] (LD.out _ HB.out).2.2.1 (by omega) (by omega) near3').mono ?_); rintro e w3 ⟨A2, c2, rfl, hR, hb⟩; have HR2 := Aside0.mk (show Kd.C (Kd.int .i64) w3 A2 2 [0, 2] ∧ 2 ≤ c2 from ⟨(Kd.R_reads' hR).2.2, (Kd.R_reads' hR).2.1⟩); have HEn := Aside0.mk (errOk_below HE.out hb); clear HE; have HE := HEn; clear HEn; have HBn := Aside0.mk (below_step HB.out hb); clear HB c0 c1; have HB := HBn; clear HBn hb; have c0 := (LD.out _ HB.out).1; have c1 := (LD.out _ HB.out).2.1; clear hR)
    | (go_at_call 26; (with_reducible refine (same_true A2 2 c2 [0, 2] (some ⟨w3.heap.size, 0, none⟩) 2 2 _ (Kd.C_alloc HR2.out.1 _) HR2.out.2 (C_02 w3) (Nat.le_refl _) (by decide)).mono ?_); rintro e w4 ⟨rfl, hb⟩; have HEn := Aside0.mk (errOk_below HE.out (below_step (below_alloc (Below.refl _ _) _) hb)); clear HE; have HE := HEn; clear HEn; have HBn := Aside0.mk (below_step HB.out (below_step (below_alloc (Below.refl _ _) _) hb)); clear HB c0 c1; have HB := HBn; clear HBn hb; have c0 := (LD.out _ HB.out).1; have c1 := (LD.out _ HB.out).2.1)
    | (go_at_call 19; (with_reducible refine (ways_at 3 _ 3 3 ls3 _ (LD.out _ HB.out).2.2.1 (by omega) right3).mono ?_); rintro e w5 ⟨l, A5, c5, rfl, hW, hO, hb⟩; have h6 := ways3 hW; rw [h6]; clear hO hW h6; have HEn := Aside0.mk (errOk_below HE.out hb); clear HE; have HE := HEn; clear HEn; have HBn := Aside0.mk (below_step HB.out hb); clear HB c0 c1; have HB := HBn; clear HBn hb; have c0 := (LD.out _ HB.out).1; have c1 := (LD.out _ HB.out).2.1)
    | (go_at_call 15; (with_reducible refine (kind_e g (-1) _ (LD.out _ HB.out).2.2.2 HE.out).mono ?_); rintro e w6 ⟨rfl, hb⟩; have HEn := Aside0.mk (errOk_below HE.out hb); clear HE; have HE := HEn; clear HEn; have HBn := Aside0.mk (below_step HB.out hb); clear HB c0 c1; have HB := HBn; clear HBn hb; have c0 := (LD.out _ HB.out).1; have c1 := (LD.out _ HB.out).2.1)
    | (go_at_call 16; (with_reducible refine (place_e g (-1) _ (LD.out _ HB.out).2.2.2 HE.out).mono ?_); rintro e w7 ⟨rfl, hb⟩; have HEn := Aside0.mk (errOk_below HE.out hb); clear HE; have HE := HEn; clear HEn; have HBn := Aside0.mk (below_step HB.out hb); clear HB c0 c1; have HB := HBn; clear HBn hb; have c0 := (LD.out _ HB.out).1; have c1 := (LD.out _ HB.out).2.1)
    | (go_at_call 28; (with_reducible refine (far_at 3 0 2 _ 3 3 ls3 _ (LD.out _ HB.out).2.2.1 (by omega) (by omega) (by omega)).mono ?_); rintro e w8 ⟨r, rfl, hF, hb⟩; obtain rfl := far3 hF; clear hF; have HEn := Aside0.mk (errOk_below HE.out hb); clear HE; have HE := HEn; clear HEn; have HBn := Aside0.mk (below_step HB.out hb); clear HB c0 c1; have HB := HBn; clear HBn hb; have c0 := (LD.out _ HB.out).1; have c1 := (LD.out _ HB.out).2.1))
  go_ret
  exact ⟨rfl, below_step HA.out HB.out⟩
end Go.Proofs.YtfkkefhijhjaaaaDoor.Gr
