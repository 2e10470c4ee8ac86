import Derived.Test.YtgdieejhglhkcaaGreatDoorTuJ3
namespace Go.Proofs.YtgdieejhglhkcaaGreatDoor.MTup
open Go.RowKit Go.Lib
set_option linter.unusedVariables false
set_option linter.unusedSimpArgs false
theorem f4 {w : World} {g i : Nat} {vs : List Value} {b : Addr} (h : (w.setCells g i vs).frozen? b = false) : w.frozen? b = false := by
  rwa [World.frozen?_setCells] at h
theorem ne4 {g a b : Nat} (h : a ≠ b) : (⟨g, a, none⟩ : Addr) ≠ ⟨g, b, none⟩ := fun e => h (congrArg Addr.off e)
theorem c4_0 {w : World} {g i j : Nat} {v0 v1 v2 v3 u : Value} (h : (w.setCells g (i * 4 + 0) [v0, v1, v2, v3]).cell? ⟨g, j * 4, none⟩ = some u) : (w.setCell ⟨g, i * 4, none⟩ v0).cell? ⟨g, j * 4, none⟩ = some u := by
  replace h : ((((w.setCell ⟨g, i * 4, none⟩ v0).setCell ⟨g, i * 4 + 1, none⟩ v1).setCell ⟨g, i * 4 + 2, none⟩ v2).setCell ⟨g, i * 4 + 3, none⟩ v3).cell? ⟨g, j * 4, none⟩ = some u := h
  rw [World.cell?_setCell_other _ _ _ _ (ne4 (by omega))] at h
  rw [World.cell?_setCell_other _ _ _ _ (ne4 (by omega))] at h
  rw [World.cell?_setCell_other _ _ _ _ (ne4 (by omega))] at h
  exact h
theorem c4_1 {w : World} {g i j : Nat} {v0 v1 v2 v3 u : Value} (h : (w.setCells g (i * 4 + 0) [v0, v1, v2, v3]).cell? ⟨g, j * 4 + 1, none⟩ = some u) : ((w.setCell ⟨g, i * 4, none⟩ v0).setCell ⟨g, i * 4 + 1, none⟩ v1).cell? ⟨g, j * 4 + 1, none⟩ = some u := by
  replace h : ((((w.setCell ⟨g, i * 4, none⟩ v0).setCell ⟨g, i * 4 + 1, none⟩ v1).setCell ⟨g, i * 4 + 2, none⟩ v2).setCell ⟨g, i * 4 + 3, none⟩ v3).cell? ⟨g, j * 4 + 1, none⟩ = some u := h
  rw [World.cell?_setCell_other _ _ _ _ (ne4 (by omega))] at h
  rw [World.cell?_setCell_other _ _ _ _ (ne4 (by omega))] at h
  exact h
theorem c4_2 {w : World} {g i j : Nat} {v0 v1 v2 v3 u : Value} (h : (w.setCells g (i * 4 + 0) [v0, v1, v2, v3]).cell? ⟨g, j * 4 + 2, none⟩ = some u) : (((w.setCell ⟨g, i * 4, none⟩ v0).setCell ⟨g, i * 4 + 1, none⟩ v1).setCell ⟨g, i * 4 + 2, none⟩ v2).cell? ⟨g, j * 4 + 2, none⟩ = some u := by
  replace h : ((((w.setCell ⟨g, i * 4, none⟩ v0).setCell ⟨g, i * 4 + 1, none⟩ v1).setCell ⟨g, i * 4 + 2, none⟩ v2).setCell ⟨g, i * 4 + 3, none⟩ v3).cell? ⟨g, j * 4 + 2, none⟩ = some u := h
  rw [World.cell?_setCell_other _ _ _ _ (ne4 (by omega))] at h
  exact h
theorem c4_3 {w : World} {g i j : Nat} {v0 v1 v2 v3 u : Value} (h : (w.setCells g (i * 4 + 0) [v0, v1, v2, v3]).cell? ⟨g, j * 4 + 3, none⟩ = some u) : ((((w.setCell ⟨g, i * 4, none⟩ v0).setCell ⟨g, i * 4 + 1, none⟩ v1).setCell ⟨g, i * 4 + 2, none⟩ v2).setCell ⟨g, i * 4 + 3, none⟩ v3).cell? ⟨g, j * 4 + 3, none⟩ = some u := by
  replace h : ((((w.setCell ⟨g, i * 4, none⟩ v0).setCell ⟨g, i * 4 + 1, none⟩ v1).setCell ⟨g, i * 4 + 2, none⟩ v2).setCell ⟨g, i * 4 + 3, none⟩ v3).cell? ⟨g, j * 4 + 3, none⟩ = some u := h
  exact h
end Go.Proofs.YtgdieejhglhkcaaGreatDoor.MTup
