import Derived.Test.YtfkkefhijhjaaaaDoorWWords
import Derived.Lib.OwnBridge
import Derived.Shelf.GgSortFunc.RowK
import Derived.Shelf.GgSortFunc.InsertionK
/-! Rows of elements of k cells as the sort's words have them. -/
namespace Go.Proofs.YtfkkefhijhjaaaaDoor.RowK
open Go.RowKit Go.Lib Go.Sort Go.Proofs.YtfkkefhijhjaaaaDoorW.PrintWords
section
variable {α : Type} [Inhabited α] {enc : α → List Value} {k : Nat}
theorem flat_len (d : Array α) : (flatK enc k d).size = d.size * k := by simp [flatK]
theorem flat_get (d : Array α) {t : Nat} (h : t < d.size * k) : (flatK enc k d)[t]? = some ((enc d[t / k]!)[t % k]!) := by
  unfold flatK
  rw [Array.getElem?_map, Array.getElem?_eq_getElem (by simpa using h)]
  simp
theorem reps_flat (hk : ∀ x, (enc x).length = k) (hk0 : 0 < k) (xs : List α) : Reps (fun p c => c = enc p) k xs (flatK enc k xs.toArray).toList := by
  refine ⟨by rw [Array.length_toList, flat_len]; simp, fun j p hp => ?_⟩
  obtain ⟨hj, rfl⟩ := List.getElem?_eq_some_iff.mp hp
  apply List.ext_getElem?
  intro i
  rw [List.getElem?_take, List.getElem?_drop, Array.getElem?_toList]
  by_cases hi : i < k
  · have hlt : j * k + i < xs.length * k := by
      have : (j + 1) * k ≤ xs.length * k := Nat.mul_le_mul_right _ hj
      rw [Nat.add_mul, Nat.one_mul] at this
      omega
    rw [if_pos hi, flat_get _ (by simpa using hlt)]
    have h1 : (j * k + i) / k = j := by rw [Nat.mul_comm, Nat.mul_add_div hk0, Nat.div_eq_of_lt hi, Nat.add_zero]
    have h2 : (j * k + i) % k = i := by rw [Nat.mul_comm, Nat.mul_add_mod, Nat.mod_eq_of_lt hi]
    rw [h1, h2]
    have h3 : xs.toArray[j]! = xs[j] := by rw [getElem!_pos xs.toArray j (by simpa using hj)]; simp
    rw [h3, List.getElem?_eq_getElem (by rw [hk]; exact hi), getElem!_pos _ i (by rw [hk]; exact hi)]
  · rw [if_neg hi, List.getElem?_eq_none (by rw [hk]; omega)]
omit [Inhabited α] in
theorem reps_unique (hk0 : 0 < k) {xs : List α} {cs ds : List Value} (h : Reps (fun p c => c = enc p) k xs cs) (h' : Reps (fun p c => c = enc p) k xs ds) : cs = ds := by
  apply List.ext_getElem?
  intro t
  by_cases ht : t < xs.length * k
  · have hj : t / k < xs.length := by rw [Nat.div_lt_iff_lt_mul hk0]; exact ht
    have h1 := h.2 (t / k) _ (List.getElem?_eq_getElem hj)
    have h2 := h'.2 (t / k) _ (List.getElem?_eq_getElem hj)
    have key : ∀ l : List Value, ((l.drop (t / k * k)).take k)[t % k]? = l[t]? := by
      intro l
      rw [List.getElem?_take, if_pos (Nat.mod_lt _ hk0), List.getElem?_drop, Nat.mul_comm, Nat.div_add_mod]
    rw [← key cs, ← key ds, h1, h2]
  · rw [List.getElem?_eq_none (by rw [h.1]; omega), List.getElem?_eq_none (by rw [h'.1]; omega)]
end
theorem holds_k {w : World} {base : Nat} {e : TypeId} {k g n cap : Nat} {fl : Array Value} (h : w.ownsRow base e k (.slice (some ⟨g, 0, none⟩) n cap) n fl.toList) : Holds id w g 0 fl := by
  intro j hj
  have hl := h.1
  rcases h.2 with ⟨e0, _⟩ | ⟨g', cap', cur, e0, hb, hg, hn, hm, hs, ht⟩
  · cases e0
  · injection e0 with e1 _ e3
    injection e1 with e1
    injection e1 with e1
    subst e1; subst e3
    refine ⟨?_, by simp [World.frozen?, hg]⟩
    have e1 : (cur.toList.take (n * k))[j]? = fl.toList[j]? := by rw [ht]
    rw [Array.length_toList] at hl
    rw [List.getElem?_take, if_pos (by omega), Array.getElem?_toList, Array.getElem?_toList, Array.getElem?_eq_getElem hj] at e1
    simp only [World.cell?, hg, Nat.zero_add]
    simp only [Option.isSome_none, Bool.false_eq_true, if_false]
    rw [e1]
    simp [getElem!_pos, hj]
theorem own_put_k {w : World} {base : Nat} {e : TypeId} {k g n cap q : Nat} {zs : List Value} {fl : Array Value} (h : w.ownsRow base e k (.slice (some ⟨g, 0, none⟩) n cap) n zs) (hf : fl.size = n * k) :
    (putRow id (Sort.ahead w q) g 0 fl).ownsRow base e k (.slice (some ⟨g, 0, none⟩) n cap) n fl.toList := by
  rcases h.2 with ⟨e0, _⟩ | ⟨g', cap', cur, e0, hb, hg, hn, hm, hs, ht⟩
  · cases e0
  · injection e0 with e1 _ e3
    injection e1 with e1
    injection e1 with e1
    subst e1; subst e3
    have hnc : n * k ≤ cap * k := Nat.mul_le_mul_right _ hn
    refine ⟨by rw [Array.length_toList, hf], .inr ⟨g, cap, putCells id 0 fl cur, rfl, hb, ?_, hn, hm, by simpa [putCells] using hs, ?_⟩⟩
    · simp [putRow, mapBlock, Sort.ahead, Array.getElem?_modify, hg, onCells]
    · apply List.ext_getElem?
      intro j
      rw [List.getElem?_take, Array.getElem?_toList, Array.getElem?_toList]
      by_cases hj : j < n * k
      · have hjc : j < cur.size := by omega
        simp only [if_pos hj, putCells, Array.getElem?_mapIdx, Array.getElem?_eq_getElem hjc, Option.map_some]
        rw [if_pos (by omega), Array.getElem?_eq_getElem (by omega)]
        simp [getElem!_pos, show j < fl.size by omega]
      · rw [if_neg hj, Array.getElem?_eq_none (by omega)]
end Go.Proofs.YtfkkefhijhjaaaaDoor.RowK
