import Derived.Test.YtfabnapjbgamaaaGreatDoorPrA
import Derived.Test.YtfabnapjbgamaaaGreatDoorPrBC
import Derived.Test.YtfabnapjbgamaaaGreatDoorEr
namespace Go.Proofs.YtfabnapjbgamaaaGreatDoor.MPred
open Go.RowKit Go.Lib Go.Proofs.YtfabnapjbgamaaaGreatDoorW.PrintWords Go.Proofs.YtfabnapjbgamaaaGreatDoorW.PrintLast Go.Proofs.YtfabnapjbgamaaaGreatDoorW.PrintMore
set_option linter.unusedVariables false
set_option linter.unusedSimpArgs false
/-! ### pred.Make: function 37 -/
theorem both_name (a b : S23) (h : a.f0 = b.f0) (n : ByteArray) (x y z : Int) (s : ByteArray) (hf : pred_Both.f a.f0 a.f1 a.f2 a.f3 a.f4 b.f0 b.f1 b.f2 b.f3 b.f4 = some (n, x, y, z, s, true)) : n = a.f0 := by
  have fin : ∀ (a0 : ByteArray) (a1 a2 a3 : Int) (a4 b0 : ByteArray) (b1 b2 b3 : Int) (b4 : ByteArray), pred_Both.fin a0 a1 a2 a3 a4 b0 b1 b2 b3 b4 = some (n, x, y, z, s, true) → n = a0 := by
    intro a0 a1 a2 a3 a4 b0 b1 b2 b3 b4 hh
    unfold pred_Both.fin pred_Both.none_ at hh
    obtain ⟨v, _, hv⟩ := Option.bind_eq_some_iff.1 hh
    split at hv
    · simp only [Option.some.injEq, Prod.mk.injEq] at hv
      exact hv.1.symm
    · simp at hv
  have core : ∀ (a0 : ByteArray) (a1 a2 a3 : Int) (a4 b0 : ByteArray) (b1 b2 b3 : Int) (b4 : ByteArray), pred_Both.core a0 a1 a2 a3 a4 b0 b1 b2 b3 b4 = some (n, x, y, z, s, true) → n = a0 ∨ n = b0 := by
    intro a0 a1 a2 a3 a4 b0 b1 b2 b3 b4 hh
    unfold pred_Both.core pred_Both.none_ at hh
    split at hh
    · split at hh
      · split at hh
        · simp at hh
        · simp only [Option.some.injEq, Prod.mk.injEq] at hh
          exact .inl hh.1.symm
      · simp at hh
    · split at hh
      · split at hh
        · exact .inr (fin _ _ _ _ _ _ _ _ _ _ hh)
        · exact .inl (fin _ _ _ _ _ _ _ _ _ _ hh)
      · split at hh
        · exact .inl (fin _ _ _ _ _ _ _ _ _ _ hh)
        · simp at hh
  unfold pred_Both.f at hf
  split at hf
  · rcases core _ _ _ _ _ _ _ _ _ _ hf with e | e
    · exact e.trans h.symm
    · exact e
  · rcases core _ _ _ _ _ _ _ _ _ _ hf with e | e
    · exact e
    · exact e.trans h.symm
def mk.cnt (out : List S23) (s : ByteArray) : Nat := out.countP (fun x => decide (cmpB x.f0 s < 0))
def mk.met (out : List S23) (s : ByteArray) : Bool := decide (mk.cnt out s < out.length) && decide (cmpB (out.getD (mk.cnt out s) z23).f0 s = 0)
def mk.l1 (k : Nat) : List S23 → Option Bool
  | [] => some true
  | c :: t => (pred_RightOne.f k c.f0 c.f1 c.f2 c.f3 c.f4).bind fun b => if b = true then mk.l1 k t else some false
def mk.both (a b : S23) : Option (S23 × Bool) := (pred_Both.f a.f0 a.f1 a.f2 a.f3 a.f4 b.f0 b.f1 b.f2 b.f3 b.f4).map fun r => (⟨r.1, r.2.1, r.2.2.1, r.2.2.2.1, r.2.2.2.2.1⟩, r.2.2.2.2.2)
def mk.l2 : List S23 → List S23 → Option (Option (List S23))
  | out, [] => some (some out)
  | out, c :: t => if mk.met out c.f0 = true then (mk.both (out.getD (mk.cnt out c.f0) z23) c).bind fun r => if r.2 = true then mk.l2 (out.set (mk.cnt out c.f0) r.1) t else some none
      else if out.length = 5 then some none else mk.l2 (out.take (mk.cnt out c.f0) ++ [c] ++ out.drop (mk.cnt out c.f0)) t
def pred_Make.f (k : Nat) (l : List S23) : Option (Option (List S23)) := (mk.l1 k l).bind fun b => if b = true then mk.l2 [] l else some none
theorem mk.cnt_le (out : List S23) (s : ByteArray) : mk.cnt out s ≤ out.length := List.countP_le_length
theorem rises_cnt {out : List S23} (hR : Rises out) (s : ByteArray) : (∀ t, t < mk.cnt out s → cmpB (out.getD t z23).f0 s < 0) ∧ ∀ t, mk.cnt out s ≤ t → t < out.length → ¬ cmpB (out.getD t z23).f0 s < 0 := by
  have h := countP_lt (l := out) (fun x => decide (cmpB x.f0 s < 0)) (fun a b hab hb hp => by
    simp only [decide_eq_true_eq] at hp ⊢
    exact hR.mono s a b hab hb hp)
  exact ⟨fun t ht => by simpa using h.1 t ht, fun t h1 h2 => by simpa using h.2 t h1 h2⟩
theorem rises_set {out : List S23} (hR : Rises out) (k : Nat) (y : S23) (hk : k < out.length) (hy : y.f0 = (out.getD k z23).f0) : Rises (out.set k y) := by
  have hn : ∀ t, ((out.set k y).getD t z23).f0 = (out.getD t z23).f0 := fun t => by
    rw [List.getD_eq_getElem?_getD, List.getD_eq_getElem?_getD, List.getElem?_set]
    split
    · rename_i e
      subst e
      simp [hk, hy, List.getD_eq_getElem?_getD]
    · rfl
  intro a b hab hb
  rw [hn, hn]
  exact hR a b hab (by simpa using hb)
theorem rises_put {out : List S23} (hR : Rises out) (c : S23) (hm : mk.met out c.f0 = false) : Rises (out.take (mk.cnt out c.f0) ++ [c] ++ out.drop (mk.cnt out c.f0)) := by
  obtain ⟨h1, h2⟩ := rises_cnt hR c.f0
  have hle := mk.cnt_le out c.f0
  have hmt : ∀ h : mk.cnt out c.f0 < out.length, ¬ cmpB (out.getD (mk.cnt out c.f0) z23).f0 c.f0 = 0 := fun h e => by
    unfold mk.met at hm
    rw [decide_eq_true h, decide_eq_true e] at hm
    simp at hm
  generalize mk.cnt out c.f0 = k at h1 h2 hle hmt ⊢
  have hlt : (out.take k).length = k := by rw [List.length_take]; omega
  have e1 : ∀ t, t < k → (out.take k ++ [c] ++ out.drop k).getD t z23 = out.getD t z23 := fun t ht => by
    rw [List.getD_eq_getElem?_getD, List.getD_eq_getElem?_getD, List.append_assoc, List.getElem?_append_left (by omega), List.getElem?_take_of_lt ht]
  have e2 : (out.take k ++ [c] ++ out.drop k).getD k z23 = c := by
    rw [List.getD_eq_getElem?_getD, List.append_assoc, List.getElem?_append_right (by omega), hlt]
    simp
  have e3 : ∀ t, k < t → (out.take k ++ [c] ++ out.drop k).getD t z23 = out.getD (t - 1) z23 := fun t ht => by
    rw [List.getD_eq_getElem?_getD, List.getD_eq_getElem?_getD, List.getElem?_append_right (by simp [hlt]; omega), List.getElem?_drop]
    congr 2
    simp [hlt]
    omega
  have hgt : ∀ t, k ≤ t → t < out.length → cmpB c.f0 (out.getD t z23).f0 < 0 := fun t h3 h4 => by
    have a1 := h2 k (Nat.le_refl _) (by omega)
    have a2 := hmt (by omega)
    have a3 : cmpB c.f0 (out.getD k z23).f0 < 0 := by rw [cmpB_anti]; omega
    rcases Nat.lt_or_ge k t with h5 | h5
    · exact cmpB_trans a3 (hR k t h5 h4)
    · obtain rfl : k = t := by omega
      exact a3
  intro a b hab hb
  have hb' : b < out.length + 1 := by simp [hlt] at hb; omega
  rcases Nat.lt_trichotomy a k with ha | ha | ha
  · rw [e1 a ha]
    rcases Nat.lt_trichotomy b k with hk | hk | hk
    · rw [e1 b hk]; exact hR a b hab (by omega)
    · rw [hk, e2]; exact h1 a ha
    · rw [e3 b hk]; exact hR a (b - 1) (by omega) (by omega)
  · rw [ha, e2, e3 b (by omega)]
    exact hgt (b - 1) (by omega) (by omega)
  · rw [e3 a ha, e3 b (by omega)]
    exact hR (a - 1) (b - 1) (by omega) (by omega)
theorem flat23_put (out : List S23) (k : Nat) (c : S23) : (flat23 out).take (k * 5) ++ enc23 c ++ (flat23 out).drop (k * 5) = flat23 (out.take k ++ [c] ++ out.drop k) := by
  rw [flat23_take, flat23_drop, flat23_append, flat23_append]
  rfl
theorem drop_get (l : List S23) (i : Nat) (hi : i < l.length) : l.drop i = l.getD i z23 :: l.drop (i + 1) := by
  rw [List.drop_eq_getElem_cons hi, List.getD_eq_getElem?_getD, List.getElem?_eq_getElem hi]
  rfl
theorem met_true {out : List S23} {s : ByteArray} (h : mk.met out s = true) : mk.cnt out s < out.length ∧ (out.getD (mk.cnt out s) z23).f0 = s := by
  unfold mk.met at h
  rw [Bool.and_eq_true, decide_eq_true_eq, decide_eq_true_eq] at h
  exact ⟨h.1, cmpB_eq h.2⟩
theorem bs_names (A : Option Addr) (c n : Nat) (out : List S23) (hn : out.length = n) (s : ByteArray) (b : Bool) (w : World) (hC : Kd.C k23 w A out.length out) (hsz : out.length ≤ 1000) (hR : Rises out) (hm : mk.met out s = b) :
    Calls Tryz.prog 29 #[.slice A n c, .string s, .func (.func 30) #[] #[]] w fun e w' => e = .returned (.tuple #[.int .i64 (mk.cnt out s : Nat), .bool b]) ∧ Below w.heap.size w w' := by
  subst hn
  rw [← hm]
  exact bs23 (.string s) (fun x => cmpB x.f0 s) 30 #[] A c out w (fun args w => enters_ Tryz.func30 (by kernel_rfl) rfl args w) (fun x W => cmp23.calls x s W) hC (by omega) (fun a b hab hb h => hR.mono s a b hab hb h)
def mk.Post (r : Option (List S23)) (w : World) (e : Ending) (w' : World) : Prop :=
  ∃ v x, e = .returned (.tuple #[v, x]) ∧ (match r with
    | some out => x = Value.nilIface ∧ Kd.R k23 23 w' w.heap.size (fun _ => True) v out
    | none => v = .slice none 0 0 ∧ ∃ g, x = .iface 73 (.pointer (some ⟨g, 0, none⟩))) ∧ Below w.heap.size w w'
def mke.l1 (k : Nat) : Nat → List S23 → Option (Option Nat)
  | _, [] => some none
  | i, c :: t => (pred_RightOne.f k c.f0 c.f1 c.f2 c.f3 c.f4).bind fun b => if b = true then mke.l1 k (i + 1) t else some (some i)
def mke.l2 : Nat → List S23 → List S23 → Option (Except (Nat × Int) (List S23))
  | _, out, [] => some (.ok out)
  | i, out, c :: t => if mk.met out c.f0 = true then (mk.both (out.getD (mk.cnt out c.f0) z23) c).bind fun r => if r.2 = true then mke.l2 (i + 1) (out.set (mk.cnt out c.f0) r.1) t else some (.error (i, 5))
      else if out.length = 5 then some (.error (i, 7)) else mke.l2 (i + 1) (out.take (mk.cnt out c.f0) ++ [c] ++ out.drop (mk.cnt out c.f0)) t
def mke.go (l : List S23) : Option Nat → Option (Except (Nat × Int) (List S23))
  | none => mke.l2 0 [] l
  | some i => some (.error (i, 1))
def pred_MakeE.f (k : Nat) (l : List S23) : Option (Except (Nat × Int) (List S23)) := (mke.l1 k 0 l).bind (mke.go l)
def mke.opt : Except (Nat × Int) (List S23) → Option (List S23)
  | .ok x => some x
  | .error _ => none
theorem mke_l1 (k : Nat) : ∀ (l : List S23) (i : Nat), mk.l1 k l = (mke.l1 k i l).map (·.isNone)
  | [], _ => rfl
  | c :: t, i => by
    rw [mk.l1, mke.l1]
    cases pred_RightOne.f k c.f0 c.f1 c.f2 c.f3 c.f4 with
    | none => rfl
    | some b =>
      cases b
      · rfl
      · exact mke_l1 k t (i + 1)
theorem mke_l2 : ∀ (l : List S23) (i : Nat) (out : List S23), mk.l2 out l = (mke.l2 i out l).map mke.opt
  | [], _, _ => rfl
  | c :: t, i, out => by
    rw [mk.l2, mke.l2]
    split
    · cases mk.both (out.getD (mk.cnt out c.f0) z23) c with
      | none => rfl
      | some r =>
        obtain ⟨x, b⟩ := r
        cases b
        · rfl
        · exact mke_l2 t (i + 1) _
    · split
      · rfl
      · exact mke_l2 t (i + 1) _
theorem mke_f (k : Nat) (l : List S23) : pred_Make.f k l = (pred_MakeE.f k l).map mke.opt := by
  unfold pred_Make.f pred_MakeE.f
  rw [mke_l1 k l 0]
  cases mke.l1 k 0 l with
  | none => rfl
  | some b =>
    cases b with
    | none => exact mke_l2 l 0 []
    | some i => rfl
theorem new_no (s : ByteArray) (n k : Int) (w : World) :
    Calls Tryz.prog 28 #[.string s, .int .i64 n, .iface 32 (.int .i64 k)] w fun e w' => ∃ g, e = .returned (.iface 73 (.pointer (some ⟨g, 0, none⟩))) ∧ (Er.Err.fault g s n (.no k)).ok w' ∧ Below w.heap.size w w' := by
  refine (Er.new_any s n (.no k) w).mono ?_
  rintro e w' ⟨rfl, rfl⟩
  exact ⟨w.heap.size, rfl, Er.new_ok s n (.no k) w trivial, below_alloc (Below.refl _ _) _⟩
def mke.Post (r : Except (Nat × Int) (List S23)) (w : World) (e : Ending) (w' : World) : Prop :=
  ∃ v x, e = .returned (.tuple #[v, x]) ∧ (match r with
    | .ok out => x = Value.nilIface ∧ Kd.R k23 23 w' w.heap.size (fun _ => True) v out
    | .error p => v = .slice none 0 0 ∧ ∃ g, x = .iface 73 (.pointer (some ⟨g, 0, none⟩)) ∧ (Er.Err.fault g (⟨#[112, 114, 101, 100]⟩ : ByteArray) (p.1 : Int) (.no p.2)).ok w') ∧ Below w.heap.size w w'
set_option maxHeartbeats 8000000 in
set_option maxRecDepth 1000000 in
theorem pred_MakeE.calls (k : Nat) (A : Option Addr) (cc : Nat) (l : List S23) (r : Except (Nat × Int) (List S23)) (w : World) (hr : Kd.C k23 w A l.length l) (hl : l.length ≤ 1048576) (h : pred_MakeE.f k l = some r) :
    Calls Tryz.prog 9 #[.slice A l.length cc] w (mke.Post r w) := by
  have hu23 := Tryz.underlying23
  have hu32 := Tryz.underlying32
  obtain ⟨b0, h1, h2⟩ := Option.bind_eq_some_iff.1 h
  clear h
  have HR := Aside0.mk hr
  have H2 := Aside0.mk h2
  clear hr h2
  go_enter Tryz.func9, Tryz.ntmps9
  go_wp2
  go_loopw [15] (fun v wr => ∃ i : Nat, i ≤ l.length ∧ v = .int .i64 i ∧ Aside0 (mke.l1 k i (l.drop i) = some b0) ∧ Aside0 (Below w.heap.size w wr)) (fun v _ => l.length - (intOf v).toNat)
  case atStart => exact ⟨0, Nat.zero_le _, rfl, ⟨h1⟩, ⟨Below.refl _ _⟩⟩
  case round =>
    clear h1
    obtain ⟨i, hi, rfl, I, S1⟩ := hrel
    by_cases hlt : i < l.length
    · have hC1 := Kd.C_below HR.out S1.out
      obtain ⟨ad, rfl, x0, x1, x2, x3, x4⟩ := at_T23 hC1 (i : Int) (by omega) (by omega)
      simp only [Int.toNat_natCast] at x0 x1 x2 x3 x4
      have Y0 : rd_T23 l (i : Int) = l.getD i z23 := by unfold rd_T23; rw [Int.toNat_natCast]
      rw [Y0] at x0 x1 x2 x3 x4
      have hI := I.out
      rw [drop_get l i hlt, mke.l1] at hI
      clear Y0 hC1 I
      generalize hy : l.getD i z23 = y at x0 x1 x2 x3 x4 hI
      obtain ⟨b, hb1, hb2⟩ := Option.bind_eq_some_iff.1 hI
      clear hI hy
      cases b with
      | false =>
        have hb0 : b0 = some i := by simpa using hb2.symm
        subst hb0
        have hrn : r = .error (i, 1) := by have h_ : some (Except.error ((i, 1) : Nat × Int)) = some r := H2.out; exact (Option.some.inj h_).symm
        subst hrn
        go_wp2_with (first | (go_at_call 16; (with_reducible refine (pred_RightOne.calls k _ _ _ _ _ false _ hb1).mono ?_); rintro e w2 ⟨rfl, hbw2⟩) | (go_at_call 28; (with_reducible refine (new_no _ _ _ _).mono ?_); rintro e w3 ⟨g3, rfl, hok3, hbw3⟩) | go_in)
        go_ret2
        exact ⟨_, _, rfl, ⟨rfl, _, rfl, hok3⟩, below_step (below_step S1.out (below_step (below_alloc (Below.refl _ _) _) hbw2)) hbw3⟩
      | true =>
        simp only [if_true] at hb2
        go_wp2_with (first | (go_at_call 16; (with_reducible refine (pred_RightOne.calls k _ _ _ _ _ true _ hb1).mono ?_); rintro e w2 ⟨rfl, hbw2⟩) | go_in)
        go_roundw
        case rel => exact ⟨i + 1, by omega, by go_num, ⟨hb2⟩, ⟨below_step S1.out (below_step (below_alloc (Below.refl _ _) _) hbw2)⟩⟩
        case measure => simp [intOf]; omega
    · have hie : i = l.length := by omega
      subst hie
      have hb0 : b0 = none := by have := I.out; simpa [mke.l1] using this.symm
      subst hb0
      have hr2 : mke.l2 0 [] l = some r := H2.out
      clear I H2
      go_wp2
      have hown0 : (wr.ownsRow w.heap.size 23 5 (.slice none 0 0) ([] : List S23).length (flat23 [])) := own_nil _ _ _ _
      have hb1w := S1
      clear S1
      have ⟨w1, hw1⟩ : ∃ x, x = wr := ⟨wr, rfl⟩
      subst hw1
      go_loopw [6, 29] (fun s6 s29 wr => ∃ (i : Nat) (out : List S23), i ≤ l.length ∧ s29 = .int .i64 i ∧ Aside0 (wr.ownsRow w.heap.size 23 5 s6 out.length (flat23 out)) ∧ Aside0 (Rises out) ∧ out.length ≤ 5 ∧ Aside0 (mke.l2 i out (l.drop i) = some r) ∧ Aside0 (Below w.heap.size w wr)) (fun _ s29 _ => l.length - (intOf s29).toNat)
      case atStart => exact ⟨0, [], Nat.zero_le _, rfl, ⟨hown0⟩, ⟨fun a b _ hb => by simp at hb⟩, Nat.zero_le _, ⟨hr2⟩, hb1w⟩
      case round =>
        clear hown0 hr2 hb1w
        obtain ⟨i, out, hi, rfl, O, RI, hlen, I, S1⟩ := hrel
        have hbs := S1.out.size
        by_cases hlt : i < l.length
        · have hC1 := Kd.C_below HR.out S1.out
          obtain ⟨ad, rfl, x0, x1, x2, x3, x4⟩ := at_T23 hC1 (i : Int) (by omega) (by omega)
          simp only [Int.toNat_natCast] at x0 x1 x2 x3 x4
          have Y0 : rd_T23 l (i : Int) = l.getD i z23 := by unfold rd_T23; rw [Int.toNat_natCast]
          rw [Y0] at x0 x1 x2 x3 x4
          have hI := I.out
          rw [drop_get l i hlt, mke.l2] at hI
          clear Y0 hC1 I
          generalize hy : l.getD i z23 = y at x0 x1 x2 x3 x4 hI
          clear hy
          obtain ⟨Av, cv, rfl, hcv, hCv⟩ := Kd.R_reads (R_of_flat O.out)
          have hnew := heap_alloc_new wr (.cells (enc23 y).toArray 23 (0, 0))
          have hbal : Below wr.heap.size wr (wr.alloc (.cells (enc23 y).toArray 23)) := below_alloc (Below.refl _ _) _
          have hC2 := Kd.C_below hCv hbal
          have hmt : mk.met out y.f0 = true ∨ mk.met out y.f0 = false := by cases mk.met out y.f0 <;> simp
          rcases hmt with hmt | hmt
          · rw [if_pos hmt] at hI
            obtain ⟨rb, hI1, hI2⟩ := Option.bind_eq_some_iff.1 hI
            clear hI
            obtain ⟨hk, hnm⟩ := met_true hmt
            go_wp2_with (first | (go_at_call 29; (with_reducible refine (bs_names Av cv _ out rfl y.f0 true _ hC2 (by omega) RI.out hmt).mono ?_); rintro e w2 ⟨rfl, hbw2⟩) | go_in)
            obtain ⟨rr, hbf0, rfl⟩ := Option.map_eq_some_iff.1 hI1
            obtain ⟨n1, n2, n3, n4, n5, ok⟩ := rr
            clear hI1
            obtain ⟨gv, capv, curv, hgv, hgvb⟩ : ∃ gv cap cur, Value.slice Av out.length cv = .slice (some ⟨gv, 0, none⟩) out.length cap ∧ wr.heap[gv]? = some (.cells cur 23 (0, 0)) := by
              rcases O.out.2 with ⟨e, e2⟩ | ⟨g, cap, cur, e, _, hh, _⟩
              · omega
              · exact ⟨g, cap, cur, e, hh⟩
            obtain ⟨rfl, rfl⟩ : Av = some ⟨gv, 0, none⟩ ∧ cv = capv := by injection hgv with e1 _ e3; exact ⟨e1, e3⟩
            obtain ⟨adz, eadz, z0, z1, z2, z3, z4⟩ := at_T23 (Kd.C_below hC2 hbw2) (mk.cnt out y.f0 : Int) (by omega) (by omega)
            cases eadz
            have Z0 : rd_T23 out (mk.cnt out y.f0 : Int) = out.getD (mk.cnt out y.f0) z23 := by unfold rd_T23; rw [Int.toNat_natCast]
            rw [Z0] at z0 z1 z2 z3 z4
            simp only [Int.toNat_natCast, Go.Proofs.YtfabnapjbgamaaaGreatDoorW.PrintWords.add_plain] at z0 z1 z2 z3 z4
            have hnew2 := (hbw2.block _ (blk_lt hnew)).trans hnew
            generalize mk.cnt out y.f0 = kk at z0 z1 z2 z3 z4 hI2 hk hnm hbf0 ⊢
            generalize hz : out.getD kk z23 = z at z0 z1 z2 z3 z4 hnm hbf0
            have hgvl := blk_lt hgvb
            have HNM := Aside0.mk hnm
            clear hnm
            have hbw : Below wr.heap.size wr w2 := below_step hbal hbw2
            generalize hgy : wr.heap.size = gy at hnew2 hbw hgvl ⊢
            have hbf : pred_Both.f z.f0 z.f1 z.f2 z.f3 z.f4 y.f0 y.f1 y.f2 y.f3 y.f4 = some (n1, n2, n3, n4, n5, ok) := hbf0
            have hSS : ∀ w', Below w2.heap.size w2 w' → w'.cell? ⟨gv, kk * 5, none⟩ = some (.string z.f0) ∧ w'.cell? ⟨gv, kk * 5 + 1, none⟩ = some (.int .i64 z.f1) ∧ w'.cell? ⟨gv, kk * 5 + 2, none⟩ = some (.int .i64 z.f2) ∧ w'.cell? ⟨gv, kk * 5 + 3, none⟩ = some (.int .i64 z.f3) ∧ w'.cell? ⟨gv, kk * 5 + 4, none⟩ = some (.string z.f4) ∧ w'.cell? ⟨gy, 0, none⟩ = some (.string y.f0) ∧ w'.cell? ⟨gy, 1, none⟩ = some (.int .i64 y.f1) ∧ w'.cell? ⟨gy, 2, none⟩ = some (.int .i64 y.f2) ∧ w'.cell? ⟨gy, 3, none⟩ = some (.int .i64 y.f3) ∧ w'.cell? ⟨gy, 4, none⟩ = some (.string y.f4) := fun w' hW => ⟨pw_cell_below hW z0, pw_cell_below hW z1, pw_cell_below hW z2, pw_cell_below hW z3, pw_cell_below hW z4, pw_cell_below hW ((blk_cell hnew2 0).trans rfl), pw_cell_below hW ((blk_cell hnew2 1).trans rfl), pw_cell_below hW ((blk_cell hnew2 2).trans rfl), pw_cell_below hW ((blk_cell hnew2 3).trans rfl), pw_cell_below hW ((blk_cell hnew2 4).trans rfl)⟩
            have hS14 : ∀ w', Below w2.heap.size w2 w' → w'.cell? ⟨gv, kk * 5, none⟩ = some (.string z.f0) ∧ w'.cell? ⟨gv, kk * 5 + 1, none⟩ = some (.int .i64 z.f1) ∧ w'.cell? ⟨gv, kk * 5 + 2, none⟩ = some (.int .i64 z.f2) ∧ w'.cell? ⟨gv, kk * 5 + 3, none⟩ = some (.int .i64 z.f3) ∧ w'.cell? ⟨gv, kk * 5 + 4, none⟩ = some (.string z.f4) ∧ w'.cell? ⟨gy, 0, none⟩ = some (.string y.f0) ∧ w'.cell? ⟨gy, 1, none⟩ = some (.int .i64 y.f1) ∧ w'.cell? ⟨gy, 2, none⟩ = some (.int .i64 y.f2) ∧ w'.cell? ⟨gy, 3, none⟩ = some (.int .i64 y.f3) ∧ w'.cell? ⟨gy, 4, none⟩ = some (.string y.f4) := hSS
            refine start_ (n := 12) (S := fun w' => w'.cell? ⟨gv, kk * 5, none⟩ = some (.string z.f0) ∧ w'.cell? ⟨gv, kk * 5 + 1, none⟩ = some (.int .i64 z.f1) ∧ w'.cell? ⟨gv, kk * 5 + 2, none⟩ = some (.int .i64 z.f2) ∧ w'.cell? ⟨gv, kk * 5 + 3, none⟩ = some (.int .i64 z.f3) ∧ w'.cell? ⟨gv, kk * 5 + 4, none⟩ = some (.string z.f4) ∧ w'.cell? ⟨gy, 0, none⟩ = some (.string y.f0) ∧ w'.cell? ⟨gy, 1, none⟩ = some (.int .i64 y.f1) ∧ w'.cell? ⟨gy, 2, none⟩ = some (.int .i64 y.f2) ∧ w'.cell? ⟨gy, 3, none⟩ = some (.int .i64 y.f3) ∧ w'.cell? ⟨gy, 4, none⟩ = some (.string y.f4)) (ds := [10]) #[false, false, false, false, false, false, false, false, false, false, false, false] (by kernel_rfl) rfl rfl (hS14 _ (below_drew1 (Below.refl _ _))) (fun hHeld => ?_)
            have hW0 : Below w2.heap.size w2 w2.drew := below_drew1 (Below.refl _ _)
            have hSz := fun (W : World) (hW : Below w2.drew.heap.size w2.drew W) => hS14 W (below_step hW0 hW)
            generalize w2.drew = W0 at hW0 hHeld hSz ⊢
            refine pure_ (i := 0) (N := some 49) (v := ?_) (a' := ?_) #[true, false, false, false, false, false, false, false, false, false, false, false] rfl rfl (by kernel_rfl) (fun _ _ _ h => h) (Or.inl ⟨by rfl, ?_⟩) ?_ ?_
            rotate_left
            · intro w'
              go_simp
              with_reducible rfl
            rotate_left
            · simp only [Act.put, List.setIfInBounds_toArray, List.set_cons_zero, List.set_cons_succ, i64_w, i32_w]
              rfl
            refine pure_ (i := 1) (N := some 50) (v := ?_) (a' := ?_) #[true, true, false, false, false, false, false, false, false, false, false, false] rfl rfl (by kernel_rfl) (fun _ _ _ h => h) (Or.inl ⟨by rfl, ?_⟩) ?_ ?_
            rotate_left
            · intro w'
              go_simp
              with_reducible rfl
            rotate_left
            · simp only [Act.put, List.setIfInBounds_toArray, List.set_cons_zero, List.set_cons_succ, i64_w, i32_w]
              rfl
            refine pure_ (i := 2) (N := some 51) (v := ?_) (a' := ?_) #[true, true, true, false, false, false, false, false, false, false, false, false] rfl rfl (by kernel_rfl) (fun _ _ _ h => h) (Or.inl ⟨by rfl, ?_⟩) ?_ ?_
            rotate_left
            · intro w'
              go_simp
              with_reducible rfl
            rotate_left
            · simp only [Act.put, List.setIfInBounds_toArray, List.set_cons_zero, List.set_cons_succ, i64_w, i32_w]
              rfl
            refine take_ (i := 3) (N := some 52) (v := ?_) (a' := ?_) #[true, true, true, true, false, false, false, false, false, false, false, false] rfl rfl (by kernel_rfl) (fun _ _ _ h => h) (Or.inl ⟨by rfl, ?_⟩) hHeld ?_ ?_
            rotate_left
            · rintro w' ⟨s0, s1, s2, s3, s4, s5, s6, s7, s8, s9⟩
              go_simp
              with_reducible rfl
            rotate_left
            · simp only [Act.put, List.setIfInBounds_toArray, List.set_cons_zero, List.set_cons_succ, i64_w, i32_w]
              rfl
            refine take_ (i := 4) (N := some 53) (v := ?_) (a' := ?_) #[true, true, true, true, true, false, false, false, false, false, false, false] rfl rfl (by kernel_rfl) (fun _ _ _ h => h) (Or.inl ⟨by rfl, ?_⟩) hHeld ?_ ?_
            rotate_left
            · rintro w' ⟨s0, s1, s2, s3, s4, s5, s6, s7, s8, s9⟩
              go_simp
              with_reducible rfl
            rotate_left
            · simp only [Act.put, List.setIfInBounds_toArray, List.set_cons_zero, List.set_cons_succ, i64_w, i32_w]
              rfl
            refine join_ (σ := Nat) 2 #[true, true, true, true, true, true, true, true, true, true, false, false] (fun g => [(54, .tuple #[.agg #[.string n1, .int .i64 n2, .int .i64 n3, .int .i64 n4, .string n5], .bool ok]), (48, .tuple #[.agg #[.string n1, .int .i64 n2, .int .i64 n3, .int .i64 n4, .string n5], .bool ok]), (55, .agg #[.string n1, .int .i64 n2, .int .i64 n3, .int .i64 n4, .string n5]), (56, .bool ok), (11, .pointer (some ⟨g, 0, none⟩))]) (fun g W => Below W0.heap.size W0 W ∧ W0.heap.size ≤ g ∧ W.heap[g]? = some (.cells #[.string ⟨#[]⟩, .int .i64 0, .int .i64 0, .int .i64 0, .string ⟨#[]⟩] 23 (0, 0))) ?_ ?_
            rotate_left
            · intro hJ
              refine two_ (i := 5) (j := 9) (Ni := some 54) (Nj := some 11) #[true, true, true, true, true, true, false, false, false, false, false, false] #[true, true, true, true, true, false, false, false, false, true, false, false] rfl rfl rfl rfl (by kernel_rfl) (by decide) (by decide) (fun K hK => ?_) (fun K hK => ?_)
              · skip
                refine goes_ Tryz.func14 (by kernel_rfl) rfl #[.agg #[.string z.f0, .int .i64 z.f1, .int .i64 z.f2, .int .i64 z.f3, .string z.f4], .agg #[.string y.f0, .int .i64 y.f1, .int .i64 y.f2, .int .i64 y.f3, .string y.f4]] (by rfl) rfl rfl (by (try simp only [List.map_toArray, List.map_cons, List.map_nil]); first | done | rfl) ?_
                refine (pred_Both.calls _ _ _ _ _ _ _ _ _ _ n1 n2 n3 n4 n5 ok W0 hbf).mono ?_
                rintro e W1 ⟨rfl, hbc⟩
                refine ⟨_, rfl, ?_⟩
                have hbd := hbc
                refine hK.out _ _ (hSz _ hbd) (fun hHeld => ?_)
                clear hK K
                refine norm_ (a' := ?_) ?_ ?_
                rotate_left
                · show Act.put _ (some 54) _ = _
                  simp only [Act.put, List.setIfInBounds_toArray, List.set_cons_zero, List.set_cons_succ, i64_w, i32_w]
                  rfl
                refine pure_ (i := 6) (N := some 48) (v := ?_) (a' := ?_) #[true, true, true, true, true, true, true, false, false, false, false, false] rfl rfl (by kernel_rfl) (fun _ _ _ h => h) (Or.inl ⟨by rfl, ?_⟩) ?_ ?_
                rotate_left
                · intro w'
                  go_simp
                  with_reducible rfl
                rotate_left
                · simp only [Act.put, List.setIfInBounds_toArray, List.set_cons_zero, List.set_cons_succ, i64_w, i32_w]
                  rfl
                refine pure_ (i := 7) (N := some 55) (v := ?_) (a' := ?_) #[true, true, true, true, true, true, true, true, false, false, false, false] rfl rfl (by kernel_rfl) (fun _ _ _ h => h) (Or.inl ⟨by rfl, ?_⟩) ?_ ?_
                rotate_left
                · intro w'
                  go_simp
                  with_reducible rfl
                rotate_left
                · simp only [Act.put, List.setIfInBounds_toArray, List.set_cons_zero, List.set_cons_succ, i64_w, i32_w]
                  rfl
                refine pure_ (i := 8) (N := some 56) (v := ?_) (a' := ?_) #[true, true, true, true, true, true, true, true, true, false, false, false] rfl rfl (by kernel_rfl) (fun _ _ _ h => h) (Or.inl ⟨by rfl, ?_⟩) ?_ ?_
                rotate_left
                · intro w'
                  go_simp
                  with_reducible rfl
                rotate_left
                · simp only [Act.put, List.setIfInBounds_toArray, List.set_cons_zero, List.set_cons_succ, i64_w, i32_w]
                  rfl
                refine one_ (i := 9) (N := some 11) #[true, true, true, true, true, true, true, true, true, true, false, false] rfl rfl (by kernel_rfl) (by decide) (fun K hK => ?_)
                refine value_ (w1 := W1.alloc (.cells #[.string ⟨#[]⟩, .int .i64 0, .int .i64 0, .int .i64 0, .string ⟨#[]⟩] 23)) (v := .pointer (some ⟨W1.heap.size, 0, none⟩)) (by rfl) rfl (by go_simp) ?_
                refine hK.out _ _ (hSz _ (below_alloc hbd _)) (fun hHeld => ?_)
                clear hK K
                refine norm_ (a' := ?_) ?_ ?_
                rotate_left
                · show Act.put _ (some 11) _ = _
                  simp only [Act.put, List.setIfInBounds_toArray, List.set_cons_zero, List.set_cons_succ, i64_w, i32_w]
                  rfl
                have h := hJ W1.heap.size _ ⟨below_alloc hbd _, hbd.size, heap_alloc_new W1 _⟩
                simp only [putAll, Act.put, List.setIfInBounds_toArray, List.set_cons_zero, List.set_cons_succ] at h
                exact h
              · skip
                refine value_ (w1 := W0.alloc (.cells #[.string ⟨#[]⟩, .int .i64 0, .int .i64 0, .int .i64 0, .string ⟨#[]⟩] 23)) (v := .pointer (some ⟨W0.heap.size, 0, none⟩)) (by rfl) rfl (by go_simp) ?_
                refine hK.out _ _ (hSz _ (below_alloc (Below.refl _ _) _)) (fun hHeld => ?_)
                clear hK K
                refine norm_ (a' := ?_) ?_ ?_
                rotate_left
                · show Act.put _ (some 11) _ = _
                  simp only [Act.put, List.setIfInBounds_toArray, List.set_cons_zero, List.set_cons_succ, i64_w, i32_w]
                  rfl
                refine one_ (i := 5) (N := some 54) #[true, true, true, true, true, true, false, false, false, true, false, false] rfl rfl (by kernel_rfl) (by decide) (fun K hK => ?_)
                refine goes_ Tryz.func14 (by kernel_rfl) rfl #[.agg #[.string z.f0, .int .i64 z.f1, .int .i64 z.f2, .int .i64 z.f3, .string z.f4], .agg #[.string y.f0, .int .i64 y.f1, .int .i64 y.f2, .int .i64 y.f3, .string y.f4]] (by rfl) rfl rfl (by (try simp only [List.map_toArray, List.map_cons, List.map_nil]); first | done | rfl) ?_
                refine (pred_Both.calls _ _ _ _ _ _ _ _ _ _ n1 n2 n3 n4 n5 ok _ hbf).mono ?_
                rintro e W1 ⟨rfl, hbc⟩
                refine ⟨_, rfl, ?_⟩
                have hbd := below_step (below_alloc (Below.refl W0.heap.size W0) _) hbc
                refine hK.out _ _ (hSz _ hbd) (fun hHeld => ?_)
                clear hK K
                refine norm_ (a' := ?_) ?_ ?_
                rotate_left
                · show Act.put _ (some 54) _ = _
                  simp only [Act.put, List.setIfInBounds_toArray, List.set_cons_zero, List.set_cons_succ, i64_w, i32_w]
                  rfl
                refine pure_ (i := 6) (N := some 48) (v := ?_) (a' := ?_) #[true, true, true, true, true, true, true, false, false, true, false, false] rfl rfl (by kernel_rfl) (fun _ _ _ h => h) (Or.inl ⟨by rfl, ?_⟩) ?_ ?_
                rotate_left
                · intro w'
                  go_simp
                  with_reducible rfl
                rotate_left
                · simp only [Act.put, List.setIfInBounds_toArray, List.set_cons_zero, List.set_cons_succ, i64_w, i32_w]
                  rfl
                refine pure_ (i := 7) (N := some 55) (v := ?_) (a' := ?_) #[true, true, true, true, true, true, true, true, false, true, false, false] rfl rfl (by kernel_rfl) (fun _ _ _ h => h) (Or.inl ⟨by rfl, ?_⟩) ?_ ?_
                rotate_left
                · intro w'
                  go_simp
                  with_reducible rfl
                rotate_left
                · simp only [Act.put, List.setIfInBounds_toArray, List.set_cons_zero, List.set_cons_succ, i64_w, i32_w]
                  rfl
                refine pure_ (i := 8) (N := some 56) (v := ?_) (a' := ?_) #[true, true, true, true, true, true, true, true, true, true, false, false] rfl rfl (by kernel_rfl) (fun _ _ _ h => h) (Or.inl ⟨by rfl, ?_⟩) ?_ ?_
                rotate_left
                · intro w'
                  go_simp
                  with_reducible rfl
                rotate_left
                · simp only [Act.put, List.setIfInBounds_toArray, List.set_cons_zero, List.set_cons_succ, i64_w, i32_w]
                  rfl
                have h := hJ W0.heap.size _ ⟨hbd, Nat.le_refl _, (hbc.block _ (by simp)).trans (heap_alloc_new W0 _)⟩
                simp only [putAll, Act.put, List.setIfInBounds_toArray, List.set_cons_zero, List.set_cons_succ] at h
                exact h
            rintro g1 W1 ⟨hb1, hg1, hz1⟩
            refine norm_ (a' := ?_) ?_ ?_
            rotate_left
            · simp only [putAll, Act.put, List.setIfInBounds_toArray, List.set_cons_zero, List.set_cons_succ]
              rfl
            have hv0 := (blk_cell hz1 0).trans rfl
            have hv1 := (blk_cell hz1 1).trans rfl
            have hv2 := (blk_cell hz1 2).trans rfl
            have hv3 := (blk_cell hz1 3).trans rfl
            have hv4 := (blk_cell hz1 4).trans rfl
            have hfz : ∀ j, W1.frozen? ⟨g1, j, none⟩ = false := fun j => blk_frozen hz1 j
            refine last_ (i := 10) (N := none) #[true, true, true, true, true, true, true, true, true, true, true, false] rfl rfl (by kernel_rfl) (by decide) (fun K hK => ?_)
            refine skip_ (w1 := ((((W1.setCell ⟨g1, 0, none⟩ (.string n1)).setCell ⟨g1, 1, none⟩ (.int .i64 n2)).setCell ⟨g1, 2, none⟩ (.int .i64 n3)).setCell ⟨g1, 3, none⟩ (.int .i64 n4)).setCell ⟨g1, 4, none⟩ (.string n5)) (by rfl) rfl (by go_simp) ?_
            refine hK.out _ _ ?_
            clear hK K
            refine pure_ (i := 11) (N := some 12) (v := ?_) (a' := ?_) #[true, true, true, true, true, true, true, true, true, true, true, true] rfl rfl (by kernel_rfl) (fun _ _ _ h => h) (Or.inl ⟨by rfl, ?_⟩) ?_ ?_
            rotate_left
            · intro w'
              go_simp
              with_reducible rfl
            rotate_left
            · simp only [Act.put, List.setIfInBounds_toArray, List.set_cons_zero, List.set_cons_succ, i64_w, i32_w]
              rfl
            refine done_ (by kernel_rfl) ?_
            have hz2 : (((((W1.setCell ⟨g1, 0, none⟩ (.string n1)).setCell ⟨g1, 1, none⟩ (.int .i64 n2)).setCell ⟨g1, 2, none⟩ (.int .i64 n3)).setCell ⟨g1, 3, none⟩ (.int .i64 n4)).setCell ⟨g1, 4, none⟩ (.string n5)).heap[g1]? = some (.cells #[.string n1, .int .i64 n2, .int .i64 n3, .int .i64 n4, .string n5] 23 (0, 0)) := by simpa using blk_set (blk_set (blk_set (blk_set (blk_set hz1 0 (.string n1)) 1 (.int .i64 n2)) 2 (.int .i64 n3)) 3 (.int .i64 n4)) 4 (.string n5)
            have hbW2 : Below W0.heap.size W0 (((((W1.setCell ⟨g1, 0, none⟩ (.string n1)).setCell ⟨g1, 1, none⟩ (.int .i64 n2)).setCell ⟨g1, 2, none⟩ (.int .i64 n3)).setCell ⟨g1, 3, none⟩ (.int .i64 n4)).setCell ⟨g1, 4, none⟩ (.string n5)) := ((((hb1.setCell hg1 _).setCell hg1 _).setCell hg1 _).setCell hg1 _).setCell hg1 _
            generalize (((((W1.setCell ⟨g1, 0, none⟩ (.string n1)).setCell ⟨g1, 1, none⟩ (.int .i64 n2)).setCell ⟨g1, 2, none⟩ (.int .i64 n3)).setCell ⟨g1, 3, none⟩ (.int .i64 n4)).setCell ⟨g1, 4, none⟩ (.string n5)) = W2 at hz2 hbW2 ⊢
            clear hv0 hv1 hv2 hv3 hv4 hfz hz1 hHeld hSz hS14 hSS
            have hbA : Below gy wr W2 := below_then hbw (by have := hbw.size; omega) (below_step hW0 hbW2)
            have hbB : Below w.heap.size w W2 := below_step S1.out (hgy ▸ hbA)
            cases ok with
            | false =>
              have hrn : r = .error (i, 5) := by simpa using hI2.symm
              subst hrn
              go_wp2_with (first | (go_at_call 28; (with_reducible refine (new_no _ _ _ _).mono ?_); rintro e w3 ⟨g3, rfl, hok3, hbw3⟩) | go_in)
              go_ret2
              exact ⟨_, _, rfl, ⟨rfl, _, rfl, hok3⟩, below_step hbB hbw3⟩
            | true =>
              have hI3 : mke.l2 (i + 1) (out.set kk ⟨n1, n2, n3, n4, n5⟩) (l.drop (i + 1)) = some r := by simpa using hI2
              have hnn : n1 = z.f0 := both_name z y HNM.out n1 n2 n3 n4 n5 hbf
              have hv0 := (blk_cell hz2 0).trans rfl
              have hv1 := (blk_cell hz2 1).trans rfl
              have hv2 := (blk_cell hz2 2).trans rfl
              have hv3 := (blk_cell hz2 3).trans rfl
              have hv4 := (blk_cell hz2 4).trans rfl
              have hgv2 := (hbA.block gv hgvl).trans hgvb
              have hfz : ∀ j, W2.frozen? ⟨gv, j, none⟩ = false := fun j => blk_frozen hgv2 j
              have O2 := own_move O.out (fun q hq => hbA.block q (by have := own_lt O.out q hq; omega))
              have hc0 := pw_cell_below hbW2 (pw_cell_below hW0 z0)
              have hc1 := pw_cell_below hbW2 (pw_cell_below hW0 z1)
              have hc2 := pw_cell_below hbW2 (pw_cell_below hW0 z2)
              have hc3 := pw_cell_below hbW2 (pw_cell_below hW0 z3)
              have hc4 := pw_cell_below hbW2 (pw_cell_below hW0 z4)
              have hRS := rises_set RI.out kk ⟨n1, n2, n3, n4, n5⟩ hk (by rw [hz]; exact hnn)
              have hfl := flat23_length out
              have O3 := own_cell_set (own_cell_set (own_cell_set (own_cell_set (own_cell_set O2 (kk * 5) (by omega) (.string n1)) (kk * 5 + 1) (by simp; omega) (.int .i64 n2)) (kk * 5 + 2) (by simp; omega) (.int .i64 n3)) (kk * 5 + 3) (by simp; omega) (.int .i64 n4)) (kk * 5 + 4) (by simp; omega) (.string n5)
              rw [flat23_set out kk ⟨n1, n2, n3, n4, n5⟩ hk] at O3
              have hgb : w.heap.size ≤ gv := own_base O.out gv rfl
              have hln : (out.set kk ⟨n1, n2, n3, n4, n5⟩).length = out.length := by simp
              clear hnn
              go_wp2
              refine ⟨⟨i + 1, out.set kk ⟨n1, n2, n3, n4, n5⟩, by omega, by go_num, ⟨by rw [hln]; exact O3⟩, ⟨hRS⟩, by rw [hln]; exact hlen, ⟨hI3⟩, ⟨((((hbB.setCell hgb _).setCell hgb _).setCell hgb _).setCell hgb _).setCell hgb _⟩⟩, ?_⟩
              simp [intOf]
              omega
          · rw [if_neg (by simp [hmt])] at hI
            by_cases h5 : out.length = 5
            · rw [if_pos h5] at hI
              have hrn : r = .error (i, 7) := by simpa using hI.symm
              subst hrn
              go_wp2_with (first | (go_at_call 29; (with_reducible refine (bs_names Av cv 5 out h5 y.f0 false _ hC2 (by omega) RI.out hmt).mono ?_); rintro e w2 ⟨rfl, hbw2⟩) | (go_at_call 28; (with_reducible refine (new_no _ _ _ _).mono ?_); rintro e w3 ⟨g3, rfl, hok3, hbw3⟩) | go_in)
              go_ret2
              exact ⟨_, _, rfl, ⟨rfl, _, rfl, hok3⟩, below_step (below_step S1.out (below_step hbal hbw2)) hbw3⟩
            · rw [if_neg h5] at hI
              have O2 := O.out
              have henc : ∀ u ∈ enc23 y, u.oneCell' = true := fun u hu => by simp [enc23] at hu; rcases hu with rfl | rfl | rfl | rfl | rfl <;> rfl
              go_wp2_with (first | (go_at_call 29; (with_reducible refine (bs_names Av cv _ out rfl y.f0 false _ hC2 (by omega) RI.out hmt).mono ?_); rintro e w2 ⟨rfl, hbw2⟩; have hnew2 := (hbw2.block _ (blk_lt hnew)).trans hnew; have y0 := (blk_cell hnew2 0).trans rfl; have y1 := (blk_cell hnew2 1).trans rfl; have y2 := (blk_cell hnew2 2).trans rfl; have y3 := (blk_cell hnew2 3).trans rfl; have y4 := (blk_cell hnew2 4).trans rfl; have hb22 : Below w2.heap.size w2 (w2.alloc (.cells (enc23 y).toArray 23)) := below_alloc (Below.refl _ _) _; have hbS := below_step (below_step S1.out (below_step hbal hbw2)) hb22; have O3 := own_move O2 (fun q hq => (below_step (below_step hbal hbw2) hb22).block q (own_lt O2 q hq)); have hbase := hbS.size) | (go_at_call 32; (with_reducible refine (ins23.own w.heap.size out.length (mk.cnt out y.f0) w2.heap.size 1 (.slice Av out.length cv) (flat23 out) (enc23 y) _ O3 (mk.cnt_le _ _) rfl hbase (by omega) (heap_alloc_new w2 _) (fun e => by have := own_lt O2 _ e.symm; have := hbal.size; have := hbw2.size; omega) (flat23_one out) henc).mono ?_); rintro e w3 ⟨v3, rfl, hown3, hgr3, hat3⟩) | go_in)
              rw [flat23_put] at hown3
              have hln : (out.take (mk.cnt out y.f0) ++ [y] ++ out.drop (mk.cnt out y.f0)).length = out.length + 1 := by
                have := mk.cnt_le out y.f0
                simp
                omega
              refine ⟨⟨i + 1, out.take (mk.cnt out y.f0) ++ [y] ++ out.drop (mk.cnt out y.f0), by omega, by go_num, ⟨by rw [hln]; exact hown3⟩, ⟨rises_put RI.out y hmt⟩, by omega, ⟨hI⟩, ⟨pw_below_grown hbS _ hbase hgr3 (fun q hq => own_base O2 q hq)⟩⟩, ?_⟩
              simp [intOf]
              omega
        · have hie : i = l.length := by omega
          subst hie
          have hr3 : r = .ok out := by have := I.out; simpa [mke.l2] using this.symm
          subst hr3
          go_wp2
          go_ret2
          exact ⟨_, _, rfl, ⟨rfl, R_of_flat O.out⟩, S1.out⟩
theorem pred_Make.calls (k : Nat) (A : Option Addr) (cc : Nat) (l : List S23) (r : Option (List S23)) (w : World) (hr : Kd.C k23 w A l.length l) (hl : l.length ≤ 1048576) (h : pred_Make.f k l = some r) :
    Calls Tryz.prog 9 #[.slice A l.length cc] w (mk.Post r w) := by
  rw [mke_f] at h
  obtain ⟨x, hx, rfl⟩ := Option.map_eq_some_iff.1 h
  refine (pred_MakeE.calls k A cc l x w hr hl hx).mono ?_
  rintro e w' ⟨v, y, rfl, hm, hb⟩
  refine ⟨v, y, rfl, ?_, hb⟩
  cases x with
  | ok out => exact hm
  | error p => exact ⟨hm.1, hm.2.choose, hm.2.choose_spec.1⟩
end Go.Proofs.YtfabnapjbgamaaaGreatDoor.MPred
