import Derived.Test.YtfkkefhijhjaaaaDoorGrI
import Derived.Test.YtfkkefhijhjaaaaDoorRowK
namespace Go.Proofs.YtfkkefhijhjaaaaDoor.Gr
open Go.RowKit Go.Proofs.YtfkkefhijhjaaaaDoorW.PrintWords Go.Proofs.YtfkkefhijhjaaaaDoorW.PrintLast Go.Proofs.YtfkkefhijhjaaaaDoorW.PrintMore
open Go.Lib Go.Sort
set_option linter.unusedVariables false
set_option linter.unusedSimpArgs false
def enc2 (x : Int × Int) : List Value := [vI x.1, vI x.2]
theorem k24_K {w : World} {x : Int × Int} : k24.K w x (enc2 x) := ⟨_, _, rfl, rfl, rfl⟩
theorem k24_M {w : World} {base : Nat} {ok : Nat → Prop} {x : Int × Int} : k24.M w base ok x (enc2 x) := ⟨_, _, rfl, rfl, rfl⟩
theorem k24_enc {w : World} {base : Nat} {ok : Nat → Prop} {x : Int × Int} {c : List Value} (h : k24.M w base ok x c) : c = enc2 x := k24_open (w := w) (k24.K_of_M h)
theorem own_of_R24 {e base : Nat} {w : World} {ok : Nat → Prop} {v : Value} {xs : List (Int × Int)} (h : k24.R e w base ok v xs) : w.ownsRow base e 2 v xs.length (flatK enc2 2 xs.toArray).toList := by
  obtain ⟨_, inner, ho, hr⟩ := h
  have h1 : Reps (fun p c => c = enc2 p) 2 xs inner := hr.imp_ (fun _ _ hp => k24_enc hp)
  rw [← RowK.reps_unique (k := 2) (by decide) h1 (RowK.reps_flat (k := 2) (fun _ => rfl) (by decide) xs)]
  exact ho
theorem R24_of_own {e base : Nat} {w : World} {v : Value} {xs : List (Int × Int)} (h : w.ownsRow base e 2 v xs.length (flatK enc2 2 xs.toArray).toList) : k24.R e w base (fun _ => True) v xs :=
  ⟨fun _ _ => trivial, _, h, (RowK.reps_flat (k := 2) (fun _ => rfl) (by decide) xs).imp_ (fun _ _ hp => hp ▸ k24_M)⟩
instance (x y : Int × Int) : Decidable (lexlt x y) := by unfold lexlt; infer_instance
/-- the order of links. -/
theorem lt_lex (x y : Int × Int) : ltOf cf x y = decide (lexlt x y) := by
  rw [Bool.eq_iff_iff, decide_eq_true_iff]
  unfold ltOf cf or2 compareInt lexlt
  rw [decide_eq_true_iff]
  by_cases h1 : x.1 < y.1
  · simp [h1]
  · by_cases h2 : x.1 > y.1
    · simp [h1, h2]; omega
    · have h3 : x.1 = y.1 := by omega
      by_cases h4 : x.2 < y.2
      · simp [h3, h4]
      · by_cases h5 : x.2 > y.2
        · simp [h3, h4, h5]
        · simp [h3, h4, h5]
theorem lex_tri (x y : Int × Int) (h1 : ltOf cf x y = false) (h2 : ltOf cf y x = false) : x = y := by
  rw [lt_lex, decide_eq_false_iff_not] at h1 h2
  unfold lexlt at h1 h2
  exact Prod.ext (by omega) (by omega)
theorem swo_cf : SWO (ltOf cf) where
  irrefl x := by rw [lt_lex, decide_eq_false_iff_not]; exact fun h => lexlt_asym _ _ h h
  trans x y z := by
    simp only [lt_lex, decide_eq_true_eq]
    unfold lexlt; omega
  ntrans x y z := by
    simp only [lt_lex, decide_eq_false_iff_not]
    unfold lexlt; omega
def srt (xs : List (Int × Int)) : List (Int × Int) := xs.mergeSort fun x y => !(ltOf cf) y x
theorem srt_perm (xs : List (Int × Int)) : (srt xs).Perm xs := List.mergeSort_perm _ _
theorem srt_rise {xs : List (Int × Int)} (hn : xs.Nodup) : (srt xs).Pairwise lexlt := by
  have h := List.pairwise_mergeSort (le := fun x y => !(ltOf cf) y x) (by
    intro a b c h1 h2
    simp only [lt_lex, Bool.not_eq_true', decide_eq_false_iff_not] at *
    unfold lexlt at *; omega) (by
    intro a b
    simp only [lt_lex, Bool.or_eq_true, Bool.not_eq_true', decide_eq_false_iff_not]
    unfold lexlt; omega) xs
  have h2 : (srt xs).Nodup := (srt_perm xs).nodup_iff.mpr hn
  have h3 : (srt xs).Pairwise (fun x y => (!(ltOf cf) y x) = true ∧ x ≠ y) := by
    have := List.pairwise_and_iff.mpr ⟨h, h2⟩
    exact this
  refine h3.imp fun {x y} hxy => ?_
  obtain ⟨h4, h5⟩ := hxy
  simp only [lt_lex, Bool.not_eq_true', decide_eq_false_iff_not] at h4
  unfold lexlt at *
  have : x.1 ≠ y.1 ∨ x.2 ≠ y.2 := by
    rcases Decidable.em (x.1 = y.1) with h | h
    · rcases Decidable.em (x.2 = y.2) with h' | h'
      · exact absurd (Prod.ext h h') h5
      · exact .inr h'
    · exact .inl h
  omega
theorem eg44 : ∀ args w, (callFunc 44 args).run Tryd.prog w = .ok (.enter 44 args) w := by
  intro args w
  go_simp
set_option maxHeartbeats 2000000 in
theorem sort24 {w w0 : World} {base : Nat} {v : Value} {xs : List (Int × Int)} (HO : k24.R 24 w base (fun _ => True) v xs) (hl : xs.length < 1000000000) (hB : Below base w0 w) :
    Calls Tryd.prog 43 #[v, .func (.func 44) #[] #[]] w fun e w' => e = .returned (.tuple #[]) ∧ k24.R 24 w' base (fun _ => True) v (srt xs) ∧ Below base w0 w' := by
  have HR := own_of_R24 HO
  rcases Nat.eq_zero_or_pos xs.length with h0 | h0
  · have hx : xs = [] := List.length_eq_zero_iff.mp h0
    subst hx
    obtain ⟨A, c, rfl⟩ := Kd.R_slice HO
    refine (Tryd.slices_SortFunc_none (α := Int × Int) A c _ w).mono ?_
    rintro e w' ⟨rfl, rfl⟩
    exact ⟨rfl, by simpa [srt] using HO, hB⟩
  · obtain ⟨g, cap, rfl, hg, hlt, cells, hc⟩ := Kd.R_form HO h0
    have hH : HoldsK enc2 2 w g 0 xs.toArray := RowK.holds_k HR
    have h := Tryd.slices_SortFunc_total 2 (fun w => by kernel_rfl) (fun w => by kernel_rfl) enc2 (fun _ => rfl) (fun x u hu => by simp [enc2] at hu; rcases hu with rfl | rfl <;> rfl) cf swo_cf 44 #[] g 0 cap xs.toArray w eg44
      (fun m os dk _ x y => cmp_calls x y _) hH hlt (by simp; omega) lex_tri
    rw [show xs.toArray.size = xs.length by simp] at h
    refine h.mono ?_
    rintro e w' ⟨rfl, n, os, rfl⟩
    have hp : (srt xs).length = xs.length := (srt_perm xs).length_eq
    have o1 := RowK.own_put_k (q := n) (fl := flatK enc2 2 (srt xs).toArray) HR (by rw [RowK.flat_len]; simp [hp])
    have o2 := pw_own_below o1 (grow_below _ os)
    refine ⟨rfl, R24_of_own (xs := srt xs) (by rw [hp]; exact o2), (Lib.below_putRow hB hg).trans ((grow_below _ os).mono ?_)⟩
    have h2 : base ≤ w.heap.size := by omega
    simpa [putRow, mapBlock, Sort.ahead] using h2
end Go.Proofs.YtfkkefhijhjaaaaDoor.Gr
