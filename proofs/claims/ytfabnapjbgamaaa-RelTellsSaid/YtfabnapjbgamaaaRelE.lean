import Derived.Test.YtfabnapjbgamaaaRelD
namespace Go.Proofs.Ytfabnapjbgamaaa.MRelTrue
open Go.RowKit Go.Lib Go.Proofs.YtfabnapjbgamaaaW.PrintWords Go.Proofs.YtfabnapjbgamaaaW.PrintLast Go.Proofs.YtfabnapjbgamaaaW.PrintMore
set_option linter.unusedVariables false
set_option linter.unusedSimpArgs false
/-! ### rel.Joint: function 23 -/
def rel_Joint.f (k : Nat) (l0 : List (S23)) (l1 : List (S23)) : Option (List S42 × Bool) :=
  if l0.length + l1.length ≤ 1048576 then (pred_Make.f k (l0 ++ l1)).bind fun r => match r with
    | none => some ([], false)
    | some out => (rel_Sample.f k out).bind fun s => some (s, true)
  else none
theorem make_n (k : Nat) (A : Option Addr) (cc n : Nat) (l : List S23) (r : Option (List S23)) (w : World) (hn : l.length = n) (hr : Kd.C k23 w A l.length l) (hl : l.length ≤ 1048576) (h : pred_Make.f k l = some r) :
    Calls Try.prog 37 #[.slice A n cc] w (mk.Post r w) := by
  subst hn
  exact pred_Make.calls k A cc l r w hr hl h
theorem k23_KM {w : World} {base : Nat} (x : S23) (cs : List Value) (h : k23.K w x cs) : k23.M w base (fun _ => False) x cs := by
  rw [k23_open h]
  exact k23_mkM w base _ x
theorem k23_empty (w : World) (base : Nat) (hb : base ≤ w.heap.size) : k23.R 23 (w.alloc (.cells #[] 23)) base (fun _ => True) (.slice (some ⟨w.heap.size, 0, none⟩) 0 0) [] := by
  have := World.ownsRow_made (base := base) (size := 5) (e := 23) w #[] 0 hb (Nat.zero_le _) rfl
  exact R_of_flat (by simpa [flat23] using this)
set_option maxHeartbeats 8000000 in
set_option maxRecDepth 1000000 in
theorem rel_Joint.calls (k : Nat) (A0 : Option Addr) (c0 : Nat) (l0 : List (S23)) (A1 : Option Addr) (c1 : Nat) (l1 : List (S23)) (r1 : List (S42)) (r2 : Bool) (w : World) (hr0 : Kd.C k23 w A0 l0.length l0) (hc0 : l0.length ≤ c0) (hr1 : Kd.C k23 w A1 l1.length l1) (hc1 : l1.length ≤ c1) (h : rel_Joint.f k l0 l1 = some (r1, r2)) :
    Calls Try.prog 23 #[.slice A0 l0.length c0, .slice A1 l1.length c1] w fun e w' => ∃ v0_ : Value, e = .returned (.tuple #[v0_, .bool r2]) ∧ Kd.R k42 42 w' w.heap.size (fun _ => True) v0_ r1 ∧ Below w.heap.size w w' := by
  have hu23 := Try.underlying23
  have hu25 := Try.underlying25
  unfold rel_Joint.f at h
  split at h
  · rename_i hlen
    obtain ⟨r, hm, hs⟩ := Option.bind_eq_some_iff.1 h
    clear h
    have hinfo := info23'
    have he := k23_empty w w.heap.size (Nat.le_refl _)
    have hbe : Below w.heap.size w (w.alloc (.cells #[] 23)) := below_alloc (Below.refl _ _) _
    have hR0 := Kd.C_below hr0 hbe
    have hR1 := Kd.C_below hr1 hbe
    have hbs : w.heap.size ≤ (w.alloc (.cells #[] 23)).heap.size := by simp
    cases r with
    | none =>
      have e1 : r1 = [] := by simp at hs; exact hs.1
      have e2 : r2 = false := by simp at hs; exact hs.2
      subst e1
      subst e2
      go_enter Try.func23, Try.ntmps23
      go_wp2_with (first | (at_builtin; refine Kd.R_append_rows k23 w.heap.size rfl (.tmp 9) (.tmp 10) 25 23 _ 56 rfl Try.underlying25 hinfo rfl (by decide) (by decide) _ [] l0 A0 l0.length c0 (fun _ => True) (fun _ => False) rfl rfl he hR0 k23_KM (fun _ h => h.elim) (fun _ _ => trivial) hbe hbs (by simp; omega) ?_; intro v3 w3 hR3 hb3 hg3 ha3; have hR13 := Kd.C_below hr1 hb3; rw [List.nil_append] at hR3) | (at_builtin; refine Kd.R_append_rows k23 w.heap.size rfl (.tmp 11) (.tmp 12) 25 23 _ 56 rfl Try.underlying25 hinfo rfl (by decide) (by decide) v3 l0 l1 A1 l1.length c1 (fun _ => True) (fun _ => False) rfl rfl hR3 hR13 k23_KM (fun _ h => h.elim) (fun _ _ => trivial) hb3 hb3.size (by omega) ?_; intro v4 w4 hR4 hb4 hg4 ha4; obtain ⟨A4, c4, rfl, hc4, hC4⟩ := Kd.R_reads hR4) | (go_at_call 37; (with_reducible refine (make_n k A4 c4 (l0.length + l1.length) (l0 ++ l1) none w4 (by simp) hC4 (by simp; omega) hm).mono ?_); rintro e w5 ⟨v5, x5, rfl, ⟨rfl, g5, rfl⟩, hb5⟩) | go_in)
      go_ret2
      exact ⟨_, rfl, Kd.R_nil _ _ _ _ _, below_step hb4 hb5⟩
    | some out =>
      obtain ⟨s, hs1, hs2⟩ := Option.bind_eq_some_iff.1 hs
      have e1 : r1 = s := by simp at hs2; exact hs2.1.symm
      have e2 : r2 = true := by simp at hs2; exact hs2.2
      subst e1
      subst e2
      go_enter Try.func23, Try.ntmps23
      go_wp2_with (first | (at_builtin; refine Kd.R_append_rows k23 w.heap.size rfl (.tmp 9) (.tmp 10) 25 23 _ 56 rfl Try.underlying25 hinfo rfl (by decide) (by decide) _ [] l0 A0 l0.length c0 (fun _ => True) (fun _ => False) rfl rfl he hR0 k23_KM (fun _ h => h.elim) (fun _ _ => trivial) hbe hbs (by simp; omega) ?_; intro v3 w3 hR3 hb3 hg3 ha3; have hR13 := Kd.C_below hr1 hb3; rw [List.nil_append] at hR3) | (at_builtin; refine Kd.R_append_rows k23 w.heap.size rfl (.tmp 11) (.tmp 12) 25 23 _ 56 rfl Try.underlying25 hinfo rfl (by decide) (by decide) v3 l0 l1 A1 l1.length c1 (fun _ => True) (fun _ => False) rfl rfl hR3 hR13 k23_KM (fun _ h => h.elim) (fun _ _ => trivial) hb3 hb3.size (by omega) ?_; intro v4 w4 hR4 hb4 hg4 ha4; obtain ⟨A4, c4, rfl, hc4, hC4⟩ := Kd.R_reads hR4) | (go_at_call 37; (with_reducible refine (make_n k A4 c4 (l0.length + l1.length) (l0 ++ l1) (some out) w4 (by simp) hC4 (by simp; omega) hm).mono ?_); rintro e w5 ⟨v5, x5, rfl, ⟨rfl, hR5⟩, hb5⟩; obtain ⟨A5, c5, rfl, hc5, hC5⟩ := Kd.R_reads hR5) | (go_at_call 19; (with_reducible refine (rel_Sample.calls k A5 c5 out r1 w5 hC5 hc5 hs1).mono ?_); rintro e w6 ⟨v6, rfl, hR6, hb6⟩) | go_in)
      go_ret2
      exact ⟨_, rfl, Kd.R_lower hR6 (below_step hb4 hb5).size, below_step (below_step hb4 hb5) hb6⟩
  · cases h
/-! ### rel.Meets: function 10 -/
def rel_Meets.f (k : Nat) (l0 : List (S23)) (l1 : List (S23)) : Option (Bool) := (rel_Joint.f k l0 l1).bind fun r => some r.2
set_option maxHeartbeats 8000000 in
theorem rel_Meets.calls (k : Nat) (A0 : Option Addr) (c0 : Nat) (l0 : List (S23)) (A1 : Option Addr) (c1 : Nat) (l1 : List (S23)) (r : Bool) (w : World) (hr0 : Kd.C k23 w A0 l0.length l0) (hc0 : l0.length ≤ c0) (hr1 : Kd.C k23 w A1 l1.length l1) (hc1 : l1.length ≤ c1) (h : rel_Meets.f k l0 l1 = some r) :
    Calls Try.prog 10 #[.slice A0 l0.length c0, .slice A1 l1.length c1] w fun e w' => e = .returned (.bool r) ∧ Below w.heap.size w w' := by
  obtain ⟨⟨r1, r2⟩, h1, h2⟩ := Option.bind_eq_some_iff.1 h
  have e : r2 = r := by simpa using h2
  subst e
  go_enter Try.func10, Try.ntmps10
  go_wp2_with (first | (go_at_call 23; (with_reducible refine (rel_Joint.calls k A0 c0 l0 A1 c1 l1 r1 r2 w hr0 hc0 hr1 hc1 h1).mono ?_); rintro e w2 ⟨v2, rfl, hR2, hb2⟩) | go_in)
  go_ret
  exact ⟨rfl, hb2⟩
end Go.Proofs.Ytfabnapjbgamaaa.MRelTrue
