import Derived.Test.YtpkdfjlkhfjlcaaDoorVaO
namespace Go.Proofs.YtpkdfjlkhfjlcaaDoor.MVal
open Go.RowKit Go.Proofs.YtpkdfjlkhfjlcaaDoorW.PrintWords Go.Proofs.YtpkdfjlkhfjlcaaDoorW.PrintLast
set_option linter.unusedVariables false
set_option linter.unusedSimpArgs false
abbrev fo_tx : List ByteArray := [(⟨#[]⟩ : ByteArray), (⟨#[120]⟩ : ByteArray), (⟨#[120, 121]⟩ : ByteArray), (⟨#[120, 121, 122]⟩ : ByteArray), (⟨#[120, 122]⟩ : ByteArray), (⟨#[121]⟩ : ByteArray), (⟨#[121, 121]⟩ : ByteArray)]
theorem fo_tmod (x h : Int) (h0 : 0 ≤ h) : -(h + 1) < x.tmod (h + 1) := by
  have := Int.tmod_lt_of_pos (-x) (b := h + 1) (by omega)
  rw [Int.neg_tmod] at this
  omega
theorem fo_within (x h : Int) (h0 : 0 ≤ h) (h1 : h ≤ 1000) : broadsidebook_Within.f x 0 h = some (x % (h + 1)) := by
  have e1 : wrap64 (wrap64 (h - 0) + 1) = h + 1 := by unfold wrap64; omega
  have ha := Int.tmod_lt_of_pos x (b := h + 1) (by omega)
  have hb := fo_tmod x h h0
  unfold broadsidebook_Within.f
  rw [e1, if_neg (by omega)]
  have em : x % (h + 1) = if x.tmod (h + 1) < 0 then x.tmod (h + 1) + h + 1 else x.tmod (h + 1) := by
    have hd := Int.tmod_add_mul_tdiv x (h + 1)
    split
    · rename_i hn
      have : x = (x.tmod (h + 1) + h + 1) + (h + 1) * (x.tdiv (h + 1) - 1) := by rw [Int.mul_sub]; omega
      rw [this, Int.add_mul_emod_self_left]
      rw [← this]
      exact Int.emod_eq_of_lt (by omega) (by omega)
    · rename_i hn
      have : x = x.tmod (h + 1) + (h + 1) * x.tdiv (h + 1) := by omega
      conv => lhs; rw [this, Int.add_mul_emod_self_left]
      exact Int.emod_eq_of_lt (by omega) (by omega)
  rw [em]
  split
  · congr 1; unfold wrap64; omega
  · congr 1; unfold wrap64; omega
structure V3 where
  f0 : Bool
  f1 : Int
  f2 : ByteArray
def numV (n : Int) : V3 := ⟨false, n, ⟨#[]⟩⟩
def txtV (s : ByteArray) : V3 := ⟨true, 0, s⟩
def smpV : List V3 := [numV 0, numV 1, numV 2, numV 3, numV 4, numV 5, numV 6, numV 7, numV 8, numV 9] ++ fo_tx.map txtV
theorem vals_smp (n : Int) : ∃ v : V3, broadsidekeep_Value.f n = some (v.f0, v.f1, v.f2) ∧ v ∈ smpV := by
  unfold broadsidekeep_Value.f
  rw [fo_within _ 9 (by omega) (by omega), fo_within _ 6 (by omega) (by omega)]
  generalize wrap64 (Int.tdiv n 2) = x
  by_cases h : Go.bits .and .i64 n 1 = 0
  · rw [if_pos h]
    refine ⟨numV (x % (9 + 1)), rfl, List.mem_append.2 (.inl ?_)⟩
    have hr : x % (9 + 1) = 0 ∨ x % (9 + 1) = 1 ∨ x % (9 + 1) = 2 ∨ x % (9 + 1) = 3 ∨ x % (9 + 1) = 4 ∨ x % (9 + 1) = 5 ∨ x % (9 + 1) = 6 ∨ x % (9 + 1) = 7 ∨ x % (9 + 1) = 8 ∨ x % (9 + 1) = 9 := by omega
    rcases hr with h | h | h | h | h | h | h | h | h | h <;> rw [h] <;> simp
  · rw [if_neg h]
    unfold broadsidekeep_texts.f
    simp only [Option.bind_some]
    rw [if_pos (by omega), if_pos (by simp; omega)]
    refine ⟨txtV _, rfl, List.mem_append.2 (.inr (List.mem_map.2 ⟨_, ?_, rfl⟩))⟩
    have hr : x % (6 + 1) = 0 ∨ x % (6 + 1) = 1 ∨ x % (6 + 1) = 2 ∨ x % (6 + 1) = 3 ∨ x % (6 + 1) = 4 ∨ x % (6 + 1) = 5 ∨ x % (6 + 1) = 6 := by omega
    rcases hr with h | h | h | h | h | h | h <;> rw [h] <;> simp [rdOf, fo_tx]
def lessV (a b : V3) : Option Bool := value_Less.f a.f0 a.f1 a.f2 b.f0 b.f1 b.f2
def rightV (a : V3) : Option Bool := value_Right.f a.f0 a.f1 a.f2
def okB (o : Option Bool) (b : Bool) : Bool := match o with
  | some c => c == b
  | none => false
theorem okB_iff {o : Option Bool} {b : Bool} (h : okB o b = true) : o = some b := by
  cases o with
  | none => cases h
  | some c => simp only [okB, beq_iff_eq] at h; rw [h]
def pairB (a b : V3) : Bool :=
  (okB (lessV a b) true && okB (lessV b a) false && !eqV a.f0 a.f1 a.f2 b.f0 b.f1 b.f2) || (okB (lessV a b) false && okB (lessV b a) true && !eqV a.f0 a.f1 a.f2 b.f0 b.f1 b.f2) || (okB (lessV a b) false && okB (lessV b a) false && eqV a.f0 a.f1 a.f2 b.f0 b.f1 b.f2)
def tripB (a b c : V3) : Bool := if okB (lessV a b) true then (okB (lessV b c) true && okB (lessV a c) true) || okB (lessV b c) false else true
theorem one_all : (smpV.all fun a => okB (lessV a a) false && okB (rightV a) true) = true := by kernel_rfl
theorem pair_all : (smpV.all fun a => smpV.all fun b => pairB a b) = true := by kernel_rfl
theorem trip_all : (smpV.all fun a => smpV.all fun b => smpV.all fun c => tripB a b c) = true := by kernel_rfl
theorem order_calls (i j k : Int) (w : World) (HTAB : Aside0 (Val.Tab w)) : Calls Tryd.prog 9 #[.int .i64 i, .int .i64 j, .int .i64 k] w fun e w' => e = .returned (.bool true) ∧ Below w.heap.size w w' := by
  obtain ⟨a, ha, ma⟩ := vals_smp i
  obtain ⟨b, hb, mb⟩ := vals_smp j
  obtain ⟨c, hc, mc⟩ := vals_smp k
  have h1 := List.all_eq_true.1 one_all a ma
  have h2 := List.all_eq_true.1 (List.all_eq_true.1 pair_all a ma) b mb
  have h3 := List.all_eq_true.1 (List.all_eq_true.1 (List.all_eq_true.1 trip_all a ma) b mb) c mc
  rw [Bool.and_eq_true] at h1
  have laa := okB_iff h1.1
  have ra := okB_iff h1.2
  unfold pairB at h2
  simp only [Bool.or_eq_true, Bool.and_eq_true, Bool.not_eq_true'] at h2
  rcases h2 with (⟨⟨x, y⟩, z⟩ | ⟨⟨x, y⟩, z⟩) | ⟨⟨x, y⟩, z⟩
  · unfold tripB at h3
    rw [if_pos x] at h3
    simp only [Bool.or_eq_true, Bool.and_eq_true] at h3
    rcases h3 with ⟨u, v⟩ | u
    · exact order_tt i j k _ _ _ _ _ _ _ _ _ w HTAB ⟨ha⟩ ⟨hb⟩ ⟨hc⟩ ⟨okB_iff x⟩ ⟨okB_iff y⟩ ⟨laa⟩ ⟨ra⟩ ⟨z⟩ ⟨okB_iff u⟩ ⟨okB_iff v⟩
    · exact order_tf i j k _ _ _ _ _ _ _ _ _ w HTAB ⟨ha⟩ ⟨hb⟩ ⟨hc⟩ ⟨okB_iff x⟩ ⟨okB_iff y⟩ ⟨laa⟩ ⟨ra⟩ ⟨z⟩ ⟨okB_iff u⟩
  · exact order_ft i j k _ _ _ _ _ _ _ _ _ w HTAB ⟨ha⟩ ⟨hb⟩ ⟨hc⟩ ⟨okB_iff x⟩ ⟨okB_iff y⟩ ⟨laa⟩ ⟨ra⟩ ⟨z⟩
  · exact order_ff i j k _ _ _ _ _ _ _ _ _ w HTAB ⟨ha⟩ ⟨hb⟩ ⟨hc⟩ ⟨okB_iff x⟩ ⟨okB_iff y⟩ ⟨laa⟩ ⟨ra⟩ ⟨z⟩
end Go.Proofs.YtpkdfjlkhfjlcaaDoor.MVal
