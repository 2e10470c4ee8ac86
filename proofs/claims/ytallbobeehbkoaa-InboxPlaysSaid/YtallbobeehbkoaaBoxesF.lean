import Derived.Test.YtallbobeehbkoaaBoxesE
import Derived.Test.YtallbobeehbkoaaPInboxPlaysx3
import Derived.Test.YtallbobeehbkoaaPInboxPlaysx4
namespace Go.Proofs.Ytallbobeehbkoaa.Boxes
open Go.RowKit Go.Proofs.YtallbobeehbkoaaW.PrintWords Go.Proofs.Ytallbobeehbkoaa.PInboxPlays

theorem tmod_gt (x h : Int) (h0 : 0 ≤ h) : -(h + 1) < x.tmod (h + 1) := by
  have := Int.tmod_lt_of_pos (-x) (b := h + 1) (by omega)
  rw [Int.neg_tmod] at this
  omega
theorem within_is (x h : Int) (h0 : 0 ≤ h) (h1 : h ≤ 1000) : broadsidebook_Within.f x 0 h = some (x % (h + 1)) := by
  have e1 : wrap64 (wrap64 (h - 0) + 1) = h + 1 := by unfold wrap64; omega
  have ha := Int.tmod_lt_of_pos x (b := h + 1) (by omega)
  have hb := tmod_gt x h h0
  unfold broadsidebook_Within.f
  rw [e1, if_neg (by omega)]
  have em : x % (h + 1) = if x.tmod (h + 1) < 0 then x.tmod (h + 1) + h + 1 else x.tmod (h + 1) := by
    have hd := Int.tmod_add_mul_tdiv x (h + 1)
    split
    · rename_i hn
      have : x = (x.tmod (h + 1) + h + 1) + (h + 1) * (x.tdiv (h + 1) - 1) := by rw [Int.mul_sub]; omega
      rw [this, Int.add_mul_emod_self_left]
      rw [← this]
      exact Int.emod_eq_of_lt (by omega) (by omega)
    · rename_i hn
      have : x = x.tmod (h + 1) + (h + 1) * x.tdiv (h + 1) := by omega
      conv => lhs; rw [this, Int.add_mul_emod_self_left]
      exact Int.emod_eq_of_lt (by omega) (by omega)
  rw [em]
  split
  · congr 1; unfold wrap64; omega
  · congr 1; unfold wrap64; omega

theorem wrap_up (i : Nat) (h : i ≤ 4611686018427387904) : wrap64 ((i : Int) + 1) = ((i + 1 : Nat) : Int) := by unfold wrap64; omega

theorem attr_self_l (l : List S54) (hl : l.length ≤ 4611686018427387904) : ∀ (d i : Nat), i + d = l.length → api_Attr.l0 (d + 1) l l i = some true
  | 0, i, h => by
    unfold api_Attr.l0
    rw [if_neg (by omega)]
  | d + 1, i, h => by
    unfold api_Attr.l0
    rw [if_pos (by omega), if_pos (by omega), if_pos (by omega), if_neg (by simp), wrap_up i (by omega)]
    exact attr_self_l l hl d (i + 1) (by omega)
theorem attr_self (l : List S54) (hl : l.length ≤ 4611686018427387904) : api_Attr.f (l.length + 1) l l = some true := by
  unfold api_Attr.f
  rw [if_pos rfl]
  exact attr_self_l l hl l.length 0 (by omega)
theorem gots_stop (k : Nat) (l : List S29) (a b : Int) (h : ¬ b < a) : broadsidekeep_Gots.l0 (k + 1) l l a b = some true := by
  rw [broadsidekeep_Gots.l0, if_neg h]
theorem gots_step (k : Nat) (l : List S29) (a b : Int) (h : b < a) (h0 : 0 ≤ b) (h1 : b < (l.length : Int)) (ha : api_Attr.f k (rd_T29 l b).f2 (rd_T29 l b).f2 = some true) :
    broadsidekeep_Gots.l0 (k + 1) l l a b = broadsidekeep_Gots.l0 k l l a (wrap64 (b + 1)) := by
  rw [broadsidekeep_Gots.l0]
  generalize rd_T29 l b = x at ha ⊢
  rw [if_pos h, if_pos h0, if_pos h1, if_pos h1, if_pos rfl, if_neg (by simp), ha]
  rfl
theorem rd29_f2 (l : List S29) (M : Nat) (hat : ∀ x ∈ l, x.f2.length ≤ M) (i : Nat) (hi : i < l.length) : (rd_T29 l i).f2.length ≤ M := by
  unfold rd_T29
  rw [Int.toNat_natCast, List.getD_eq_getElem?_getD, List.getElem?_eq_getElem hi]
  exact hat _ (List.getElem_mem hi)
theorem gots_self_l (l : List S29) (M : Nat) (hl : l.length ≤ 4611686018427387904) (hM : M ≤ 4611686018427387904) (hat : ∀ x ∈ l, x.f2.length ≤ M) : ∀ (d i k : Nat), i + d = l.length → M + 1 + d + 1 ≤ k → broadsidekeep_Gots.l0 k l l l.length i = some true := by
  intro d
  induction d with
  | zero =>
    intro i k h hk
    obtain ⟨k, rfl⟩ : ∃ q, k = q + 1 := ⟨k - 1, by omega⟩
    exact gots_stop k l _ _ (by omega)
  | succ d ih =>
    intro i k h hk
    obtain ⟨k, rfl⟩ : ∃ q, k = q + 1 := ⟨k - 1, by omega⟩
    have hx := rd29_f2 l M hat i (by omega)
    have ha := at_rounds (api_Attr.mono (rd_T29 l i).f2 (rd_T29 l i).f2) (k' := k) (by omega) (attr_self (rd_T29 l i).f2 (by omega))
    rw [gots_step k l _ _ (by omega) (by omega) (by omega) ha, wrap_up i (by omega)]
    exact ih (i + 1) k (by omega) (by omega)
theorem gots_self (l : List S29) (M : Nat) (hl : l.length ≤ 4611686018427387904) (hM : M ≤ 4611686018427387904) (hat : ∀ x ∈ l, x.f2.length ≤ M) : ∃ k, broadsidekeep_Gots.f k l l = some true := by
  refine ⟨M + 1 + l.length + 1, ?_⟩
  unfold broadsidekeep_Gots.f
  rw [if_pos rfl]
  exact gots_self_l l M hl hM hat l.length 0 _ (by omega) (Nat.le_refl _)

/-- What a delivery reads as, its attributes told by 'at_'. -/
def Reads (w : World) (at_ : Dv → List S54) (d : Dv) : Prop := d.n = (at_ d).length ∧ d.n ≤ d.k ∧ k54.C w d.A (at_ d).length (at_ d)
def told (at_ : Dv → List S54) (d : Dv) : S29 := ⟨d.c, ⟨d.p, d.s⟩, at_ d⟩
theorem Row.reads {w : World} {base : Nat} {v : Value} {ds : List Dv} (h : Row w base v ds) (at_ : Dv → List S54) (ha : ∀ d ∈ ds, Reads w at_ d) (hl : ds.length ≤ 1048576) :
    ∃ A c, v = .slice A (ds.map (told at_)).length c ∧ (ds.map (told at_)).length ≤ c ∧ Kd.C k29 w A (ds.map (told at_)).length (ds.map (told at_)) := by
  have hsz : k29.sz = 4 := rfl
  rcases h.2 with ⟨rfl, h0⟩ | ⟨g, cap, cur, rfl, hg, hh, hn, hcap, hcs, htk⟩
  · obtain rfl : ds = [] := List.eq_nil_of_length_eq_zero h0
    exact ⟨none, 0, rfl, Nat.le_refl _, Kd.C_nil _ _⟩
  · have hcells := Row.cells h
    refine ⟨some ⟨g, 0, none⟩, cap, by simp, by simpa using hn, rfl, by rw [List.length_map]; omega, fun _ => ⟨⟨g, 0, none⟩, rfl, fun j p hj => ?_⟩⟩
    rw [List.getElem?_map, Option.map_eq_some_iff] at hj
    obtain ⟨d, hd, rfl⟩ := hj
    obtain ⟨e1, e2, e3⟩ := ha d (List.mem_of_getElem? hd)
    refine ⟨d.cells, rfl, ?_, fun i u hu => ?_⟩
    · have := k29_mk w (told at_ d) (A3 := d.A) (c3 := d.k) (by show (at_ d).length ≤ d.k; omega) e3
      unfold Dv.cells
      rw [e1]
      exact this
    · rw [hsz]
      exact hcells _ _ (flat_at ds j d hd i u hu)

theorem gots_calls {w : World} {b1 b2 : Nat} {v1 v2 : Value} {ds : List Dv} (h1 : Row w b1 v1 ds) (h2 : Row w b2 v2 ds) (at_ : Dv → List S54) (ha : ∀ d ∈ ds, Reads w at_ d) (hM : ∀ d ∈ ds, (at_ d).length ≤ 1048576) (hl : ds.length ≤ 1048576) :
    Calls Try.prog 14 #[v1, v2] w fun e w' => e = .returned (.bool true) ∧ Below w.heap.size w w' := by
  obtain ⟨A1, c1, rfl, l1, r1⟩ := h1.reads at_ ha hl
  obtain ⟨A2, c2, rfl, l2, r2⟩ := h2.reads at_ ha hl
  obtain ⟨k, hk⟩ := gots_self (ds.map (told at_)) 1048576 (by rw [List.length_map]; omega) (by omega) (fun x hx => by
    obtain ⟨d, hd, rfl⟩ := List.mem_map.1 hx
    exact hM d hd)
  exact broadsidekeep_Gots.calls k A1 c1 _ A2 c2 _ true w r1 l1 r2 l2 hk
end Go.Proofs.Ytallbobeehbkoaa.Boxes
