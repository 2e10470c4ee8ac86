import Derived.Test.YtfabnapjbgamaaaGreatDoorPrA
import Derived.Test.YtfabnapjbgamaaaGreatDoorPrH
import Derived.Test.YtfabnapjbgamaaaGreatDoorVa
namespace Go.Proofs.YtfabnapjbgamaaaGreatDoor.MPred
open Go.RowKit Go.Lib Go.Proofs.YtfabnapjbgamaaaGreatDoorW.PrintWords Go.Proofs.YtfabnapjbgamaaaGreatDoorW.PrintLast Go.Proofs.YtfabnapjbgamaaaGreatDoorW.PrintMore
set_option linter.unusedVariables false
set_option linter.unusedSimpArgs false
theorem addr_plain {w : World} {a : Addr} {v : Value} (h : w.cell? a = some v) : a = ⟨a.block, a.off, none⟩ := by
  obtain ⟨b, o, s⟩ := a
  cases s with
  | none => rfl
  | some x =>
    unfold World.cell? at h
    split at h
    · simp at h
    · cases h
/-- value.Say in the printer's form: it wants the table of strconv's. -/
def value_Say.f (a0_0 : Bool) (a0_1 : Int) (a0_2 : ByteArray) : Option ByteArray :=
  if a0_0 = true then (if a0_2.size ≤ 15 then some (Val.quote a0_2) else none) else (if -9223372036854775808 ≤ a0_1 then (if a0_1 ≤ 9223372036854775807 then some (Val.itoa a0_1) else none) else none)
theorem value_Say.calls (a0_0 : Bool) (a0_1 : Int) (a0_2 : ByteArray) (r : ByteArray) (w : World) (HTAB : Aside0 (Val.Tab w)) (h : value_Say.f a0_0 a0_1 a0_2 = some r) :
    Calls Tryz.prog 49 #[.agg #[.bool a0_0, .int .i64 a0_1, .string a0_2]] w fun e w' => e = .returned (.string r) ∧ Below w.heap.size w w' := by
  unfold value_Say.f at h
  cases a0_0
  · rw [if_neg (by simp)] at h
    split at h
    · split at h
      · obtain rfl := Option.some.inj h
        exact Val.Say_int a0_1 a0_2 ‹_› ‹_› w HTAB.out
      · cases h
    · cases h
  · rw [if_pos rfl] at h
    split at h
    · obtain rfl := Option.some.inj h
      exact Val.Say_text a0_1 a0_2 ‹_› w
    · cases h
/-- strings.Join in the printer's form. -/
def strings_Join.f (l : List ByteArray) (sep : ByteArray) : Option ByteArray :=
  if (Go.Lib.join (l.map (·.data.toList)) sep.data.toList).length ≤ 100000 then (if l.length ≤ 100000 then some ⟨(Go.Lib.join (l.map (·.data.toList)) sep.data.toList).toArray⟩ else none) else none
theorem strings_Join.calls (A0 : Option Addr) (c0 : Nat) (l0 : List ByteArray) (a1 : ByteArray) (r : ByteArray) (w : World) (hr0 : Kd.C Kd.string w A0 l0.length l0) (hc0 : l0.length ≤ c0) (h : strings_Join.f l0 a1 = some r) :
    Calls Tryz.prog 34 #[.slice A0 l0.length c0, .string a1] w fun e w' => e = .returned (.string r) ∧ Below w.heap.size w w' := by
  unfold strings_Join.f at h
  split at h
  · split at h
    · rename_i h1 h2
      obtain rfl := Option.some.inj h
      rcases Nat.eq_zero_or_pos l0.length with h0 | h0
      · obtain rfl : l0 = [] := List.eq_nil_of_length_eq_zero h0
        refine (Tryz.strings_Join_none A0 c0 a1 w).mono fun e w' ⟨he, hw⟩ => ?_
        subst hw
        exact ⟨he, Below.refl _ _⟩
      · obtain ⟨ad, rfl, hc⟩ := hr0.2.2 h0
        have hcells : ∀ (j : Nat) x, l0[j]? = some x → w.cell? (ad.add j) = some (.string x) := fun j x hj => by
          obtain ⟨c, hl, hK, hcc⟩ := hc j x hj
          have hK' : c = [.string x] := hK
          subst hK'
          have := hcc 0 _ rfl
          rwa [show Kd.string.sz = 1 from rfl, Nat.mul_one, Nat.add_zero] at this
        have e0 : ad = ⟨ad.block, ad.off, none⟩ := by
          have h2 := hcells 0 _ (List.getElem?_eq_getElem h0)
          have h3 : ad.add 0 = ad := by unfold Addr.add; simp
          rw [h3] at h2
          exact addr_plain h2
        have hbk : ad.block < w.heap.size := by
          have h2 := hcells 0 _ (List.getElem?_eq_getElem h0)
          have := World.block_lt_of_cell? w _ h2
          have h3 : (ad.add 0).block = ad.block := by unfold Addr.add; split <;> rfl
          rwa [h3] at this
        rw [e0]
        refine Tryz.strings_Join ad.block ad.off c0 l0 a1 w (fun j x hj => ?_) hbk (by omega) hc0 (by omega)
        have h2 := hcells j x hj
        rw [e0, add_plain'] at h2
        exact h2
    · cases h
  · cases h
/-- strconv.Itoa in the printer's form. -/
def strconv_Itoa_48.f (a0 : Int) : Option ByteArray := if -9223372036854775808 ≤ a0 then (if a0 ≤ 9223372036854775807 then some (Val.itoa a0) else none) else none
theorem strconv_Itoa_48.calls (a0 : Int) (r : ByteArray) (w : World) (HTAB : Aside0 (Val.Tab w)) (h : strconv_Itoa_48.f a0 = some r) :
    Calls Tryz.prog 48 #[.int .i64 a0] w fun e w' => e = .returned (.string r) ∧ Below w.heap.size w w' := by
  unfold strconv_Itoa_48.f at h
  split at h
  · split at h
    · obtain rfl := Option.some.inj h
      refine (Tryz.strconv_Itoa a0 ‹_› ‹_› w HTAB.out).mono ?_
      rintro e w' ⟨rfl, k, os, rfl⟩
      exact ⟨rfl, (Go.Lib.below_grow _ _ (by simp) k os)⟩
    · cases h
  · cases h
end Go.Proofs.YtfabnapjbgamaaaGreatDoor.MPred
