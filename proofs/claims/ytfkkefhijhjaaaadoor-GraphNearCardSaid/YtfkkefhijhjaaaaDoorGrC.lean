import Derived.Test.YtfkkefhijhjaaaaDoorGrA
import Derived.Lib.OwnBridge
import Derived.Test.YtfkkefhijhjaaaaDoorSh
namespace Go.Proofs.YtfkkefhijhjaaaaDoor.Gr
open Go.RowKit Go.Proofs.YtfkkefhijhjaaaaDoorW.PrintWords
theorem reps_int {k : IntKind} {w : World} {xs : List Int} {cs : List Value} (h : Reps ((Kd.int k).K w) 1 xs cs) : cs = xs.map (Value.int k) := by
  obtain ⟨hl, hp⟩ := h
  apply List.ext_getElem?
  intro j
  rw [List.getElem?_map]
  cases hx : xs[j]? with
  | none =>
    rw [List.getElem?_eq_none_iff] at hx
    rw [List.getElem?_eq_none_iff.mpr (by omega)]; rfl
  | some x =>
    have h1 : (cs.drop (j * 1)).take 1 = [Value.int k x] := hp j x hx
    have h2 : ((cs.drop (j * 1)).take 1)[0]? = some (Value.int k x) := by rw [h1]; rfl
    rw [List.getElem?_take_of_lt (by omega), List.getElem?_drop] at h2
    simpa using h2
theorem reps_of_int (k : IntKind) (w : World) (base : Nat) (ok : Nat → Prop) (xs : List Int) : Reps ((Kd.int k).M w base ok) 1 xs (xs.map (Value.int k)) := by
  refine ⟨by simp, fun j p hp => ?_⟩
  show _ = [Value.int k p]
  rw [Nat.mul_one]
  have hj := (List.getElem?_eq_some_iff.mp hp)
  obtain ⟨hlt, rfl⟩ := hj
  rw [List.drop_eq_getElem_cons (by simpa using hlt)]
  simp
theorem own_of_R {k : IntKind} {e : Nat} {w : World} {base : Nat} {ok : Nat → Prop} {v : Value} {xs : List Int} (h : (Kd.int k).R e w base ok v xs) : w.ownsRow base e 1 v xs.length (xs.map (Value.int k)) := by
  obtain ⟨_, inner, ho, hr⟩ := h
  have := reps_int (w := w) (hr.imp_ (fun _ _ hp => (Kd.int k).K_of_M hp))
  rw [this] at ho
  exact ho
theorem R_of_own {k : IntKind} {e : Nat} {w : World} {base : Nat} {v : Value} {xs : List Int} (h : w.ownsRow base e 1 v xs.length (xs.map (Value.int k))) : (Kd.int k).R e w base (fun _ => True) v xs :=
  ⟨fun _ _ => trivial, _, h, reps_of_int k w base _ xs⟩
open Go.Sort in
theorem grow_below (w : World) (os : Array Obj) : Below w.heap.size w (Go.Sort.grow w os) :=
  ⟨rfl, rfl, rfl, by simp [Go.Sort.grow], fun k hk => by simp only [Go.Sort.grow]; rw [Array.getElem?_append_left hk]⟩
theorem nil_len {w : World} {base e n : Nat} {xs : List Value} (h : w.ownsRow base e 1 (.slice none 0 0) n xs) : n = 0 := by
  rcases h.2 with ⟨_, h⟩ | ⟨g, cap, cur, e0, _⟩
  · exact h
  · cases e0
/-- slices.Sort of a row of one's own. -/
theorem sort_R {w w0 : World} {base : Nat} {v : Value} {xs : List Int} (HO : (Kd.int .i64).R 3 w base (fun _ => True) v xs) (hl : xs.length < 1000000000) (hB : Below base w0 w) :
    Calls Tryd.prog 56 #[v] w fun e w' => e = .returned (.tuple #[]) ∧ (Kd.int .i64).R 3 w' base (fun _ => True) v (xs.mergeSort fun x y => decide (x ≤ y)) ∧ Below base w0 w' := by
  have HR := own_of_R HO
  by_cases hv : v = .slice none 0 0
  · subst hv
    have h0 := nil_len HR
    have hx : xs = [] := List.length_eq_zero_iff.mp h0
    subst hx
    refine (Tryd.slices_Sort_int_none none 0 w).mono ?_
    rintro e w' ⟨rfl, rfl⟩
    exact ⟨rfl, by simpa using HO, hB⟩
  · obtain ⟨g, cap, rfl, hg, hlt, hn, hm, hlen, hH⟩ := Lib.holds_of_ownsRow HR hv
    refine (Tryd.slices_Sort_int g 0 cap xs w hH hlt (by omega)).mono ?_
    rintro e w' ⟨rfl, n, os, rfl⟩
    have hp : (xs.mergeSort fun x y => decide (x ≤ y)).length = xs.length := List.length_mergeSort _
    have o1 := Lib.ownsRow_putRow (q := n) (k := xs.length) (ys := xs.mergeSort fun x y => decide (x ≤ y)) HR hp (Nat.le_refl _)
    have o2 := pw_own_below o1 (grow_below _ os)
    refine ⟨rfl, R_of_own ?_, (Lib.below_putRow hB hg).trans ((grow_below _ os).mono ?_)⟩
    · rw [List.take_of_length_le (by omega)] at o2
      rw [hp]; exact o2
    · have := (Lib.below_putRow (q := n) (d := (xs.mergeSort fun x y => decide (x ≤ y)).toArray) (enc := Value.int .i64) (Below.refl base w) hg).size
      omega
/-- slices.Compact of a row of one's own. -/
theorem compact_R {w w0 : World} {base : Nat} {v : Value} {xs : List Int} (HO : (Kd.int .i64).R 3 w base (fun _ => True) v xs) (hl : xs.length < 1000000000) (hB : Below base w0 w) :
    Calls Tryd.prog 57 #[v] w fun e w' => ∃ v', e = .returned v' ∧ (Kd.int .i64).R 3 w' base (fun _ => True) v' (Lib.compact xs) ∧ Below base w0 w' := by
  have HR := own_of_R HO
  by_cases hv : v = .slice none 0 0
  · subst hv
    have h0 := nil_len HR
    have hx : xs = [] := List.length_eq_zero_iff.mp h0
    subst hx
    refine (Tryd.slices_Compact_int_empty none 0 w).mono ?_
    rintro e w' ⟨rfl, rfl⟩
    exact ⟨_, rfl, by simpa [Lib.compact, Lib.compactUpTo] using HO, hB⟩
  · obtain ⟨g, cap, rfl, hg, hlt, hn, hm, hlen, hH⟩ := Lib.holds_of_ownsRow HR hv
    refine (Tryd.slices_Compact_int g 0 cap xs w hH (by omega) hn).mono ?_
    rintro e w' ⟨rfl, q, rfl⟩
    have hle := Lib.compact_length_le xs
    have o1 := Lib.ownsRow_putRow (q := q) (k := (Lib.compact xs).length) (ys := Lib.compact xs ++ List.replicate (xs.length - (Lib.compact xs).length) 0) HR (by simp; omega) hle
    refine ⟨_, rfl, R_of_own ?_, Lib.below_putRow hB hg⟩
    rw [List.take_left] at o1
    exact o1
end Go.Proofs.YtfkkefhijhjaaaaDoor.Gr
