import Derived.Test.YtfabnapjbgamaaaRelE
import Derived.Maps.OwnOps
import Derived.Maps.OwnSet
import Derived.StringKeys
namespace Go.Proofs.Ytfabnapjbgamaaa.MRelTrue
open Go.RowKit Go.Lib Go.Proofs.YtfabnapjbgamaaaW.PrintWords Go.Proofs.YtfabnapjbgamaaaW.PrintLast Go.Proofs.YtfabnapjbgamaaaW.PrintMore
set_option linter.unusedVariables false
set_option linter.unusedSimpArgs false
/-! ### rel.Covers: function 11 -/
def agg23 (x : S23) : Value := .agg #[.string x.f0, .int .i64 x.f1, .int .i64 x.f2, .int .i64 x.f3, .string x.f4]
def raw23 (v : Value) : Option (DataW Value × List MemPlace) := some (.held v, [])
abbrev key9 (s : ByteArray) : Lit := .string s.data.toList
theorem law9 : Maps.Keyed Try.prog 9 := Maps.string_keyed Try.underlying9
theorem key9_mk (s : ByteArray) (h : s.size ≤ maxLen) : keyOf Try.prog 9 (.string s) = some (key9 s) := Go.WideMaps.keyOf_string_mk Try.underlying9 h
theorem key9_ne {s t : ByteArray} (h : s ≠ t) : key9 s ≠ key9 t := fun e => h (ba_ext (by injection e))
theorem zero23 (w : World) : (zeroValue 23).run Try.prog w = .ok (agg23 z23) w := by
  have hu23 := Try.underlying23
  unfold agg23 z23
  go_simp
def cov.last : List S23 → ByteArray → Option S23
  | [], _ => none
  | c :: t, s => match cov.last t s with
    | some x => some x
    | none => if c.f0 = s then some c else none
theorem cov.last_append (l : List S23) (c : S23) (s : ByteArray) : cov.last (l ++ [c]) s = if c.f0 = s then some c else cov.last l s := by
  induction l with
  | nil =>
    simp only [List.nil_append, cov.last]
  | cons a t ih =>
    rw [List.cons_append, cov.last, ih, cov.last]
    by_cases h : c.f0 = s
    · rw [if_pos h]
      simp [h]
    · rw [if_neg h, if_neg h]
def cov.okB (l : List S23) : Bool := decide (l.length ≤ 1048576) && l.all (fun x => decide (x.f0.size ≤ maxLen))
def cov.go (l1 : List S23) : List S23 → Option Bool
  | [] => some true
  | c :: t => match cov.last l1 c.f0 with
    | none => some false
    | some x => (rel_wider.f c.f0 c.f1 c.f2 c.f3 c.f4 x.f0 x.f1 x.f2 x.f3 x.f4).bind fun b => if b = true then cov.go l1 t else some false
def rel_Covers.f (l0 : List (S23)) (l1 : List (S23)) : Option (Bool) := if (cov.okB l0 && cov.okB l1) = true then cov.go l1 l0 else none
/-- The map reads as the list's last ones by name. -/
structure CM (w : World) (bm n : Nat) (D : DataW Value) (l : List S23) : Prop where
  map : w.ownsMap Try.prog 9 raw23 bm n D
  has : ∀ s, Maps.has D (key9 s) = (cov.last l s).isSome
  at_ : ∀ s, D.atKey (key9 s) (.held (agg23 z23)) = .held (agg23 ((cov.last l s).getD z23))
theorem CM.made (w : World) : CM (w.alloc (.map #[] 0)) w.heap.size 0 (.map []) [] :=
  { map := World.ownsMap_made w Try.prog 9 raw23, has := fun _ => rfl, at_ := fun _ => rfl }
theorem CM.below {w w' : World} {bm n : Nat} {D : DataW Value} {l : List S23} (h : CM w bm n D l) (hb : Below w.heap.size w w') : CM w' bm n D l := by
  obtain ⟨es, clock, h1, r⟩ := h.map
  exact { h with map := ⟨es, clock, (hb.block bm (blk_lt h1)).trans h1, r⟩ }
theorem CM.put {w : World} {bm n : Nat} {D : DataW Value} {l : List S23} (h : CM w bm n D l) (hn : n < maxLen) (c : S23) (hc : c.f0.size ≤ maxLen) :
    ∃ w' D', (Instr.mapUpdate 56 (.map (some bm)) (.string c.f0) (agg23 c)).run Try.prog w = .ok () w' ∧ CM w' bm (n + 1) D' (l ++ [c]) ∧ w.mapTurned w' bm := by
  obtain ⟨w', hrun, hmap, hturn⟩ := h.map.store law9 Try.underlying56 hn (key9_mk c.f0 hc) (val := agg23 c) (d := .held (agg23 c)) (ps := []) rfl
  have hk := law9.key (key9_mk c.f0 hc)
  refine ⟨w', _, hrun, { map := hmap, has := fun s => ?_, at_ := fun s => ?_ }, hturn⟩
  · rw [cov.last_append]
    by_cases e : c.f0 = s
    · subst e
      rw [if_pos rfl, Go.Maps.has_put_same h.map.isMap hk]
      rfl
    · rw [if_neg e, Go.Maps.has_put_other (key9_ne (fun e2 => e e2.symm)), h.has]
  · rw [cov.last_append]
    by_cases e : c.f0 = s
    · subst e
      rw [if_pos rfl, Go.Maps.atKey_put_same h.map.isMap hk]
      rfl
    · rw [if_neg e, Go.Maps.atKey_put_other (key9_ne (fun e2 => e e2.symm)), h.at_]
theorem CM.look {w : World} {bm n : Nat} {D : DataW Value} {l : List S23} (h : CM w bm n D l) (s : ByteArray) (hs : s.size ≤ maxLen) :
    (Instr.lookup 56 (.map (some bm)) (.string s) true).run Try.prog w = .ok (.tuple #[agg23 ((cov.last l s).getD z23), .bool (cov.last l s).isSome]) w := by
  obtain ⟨v, ps, hrun, hv⟩ := h.map.look_ok law9 Try.underlying56 (zero23 w) (zd := .held (agg23 z23)) (zp := []) rfl (key9_mk s hs)
  rw [h.at_ s] at hv
  simp [raw23] at hv
  rw [hrun, hv.1, h.has]
theorem okB_len {l : List S23} (h : cov.okB l = true) : l.length ≤ 1048576 ∧ ∀ i, i < l.length → (l.getD i z23).f0.size ≤ maxLen := by
  unfold cov.okB at h
  rw [Bool.and_eq_true, decide_eq_true_eq, List.all_eq_true] at h
  refine ⟨h.1, fun i hi => ?_⟩
  rw [List.getD_eq_getElem?_getD, List.getElem?_eq_getElem hi]
  simpa using h.2 _ (List.getElem_mem hi)
theorem take_get (l : List S23) (i : Nat) (hi : i < l.length) : l.take (i + 1) = l.take i ++ [l.getD i z23] := by
  rw [List.take_add_one, List.getD_eq_getElem?_getD, List.getElem?_eq_getElem hi]
  rfl
theorem below_of_turned {w w' : World} {bm B : Nat} (h : w.mapTurned w' bm) (hb : B ≤ bm) (hs : B ≤ w.heap.size) : Below B w w' :=
  ⟨h.grown.os, h.grown.tape, h.grown.output, h.grown.size, fun q hq => h.grown.block q (Nat.lt_of_lt_of_le hq hs) (fun e => by cases e; omega)⟩
set_option maxHeartbeats 8000000 in
set_option maxRecDepth 1000000 in
theorem rel_Covers.calls (A0 : Option Addr) (c0 : Nat) (l0 : List (S23)) (A1 : Option Addr) (c1 : Nat) (l1 : List (S23)) (r : Bool) (w : World) (hr0 : Kd.C k23 w A0 l0.length l0) (hc0 : l0.length ≤ c0) (hr1 : Kd.C k23 w A1 l1.length l1) (hc1 : l1.length ≤ c1) (h : rel_Covers.f l0 l1 = some r) :
    Calls Try.prog 11 #[.slice A0 l0.length c0, .slice A1 l1.length c1] w fun e w' => e = .returned (.bool r) ∧ Below w.heap.size w w' := by
  have hu23 := Try.underlying23
  have hmm := @run_makeMap Try.prog
  unfold rel_Covers.f at h
  split at h
  · rename_i hok
    rw [Bool.and_eq_true] at hok
    obtain ⟨hn0, hs0⟩ := okB_len hok.1
    obtain ⟨hn1, hs1⟩ := okB_len hok.2
    have HR0 := Aside0.mk hr0
    have HR1 := Aside0.mk hr1
    have HH := Aside0.mk h
    have HS0 := Aside0.mk hs0
    have HS1 := Aside0.mk hs1
    have M0 := Aside0.mk (CM.made w)
    have B0 := Aside0.mk (below_alloc (Below.refl w.heap.size w) (.map #[] 0))
    clear hok hr0 hr1 h hs0 hs1
    go_enter Try.func11, Try.ntmps11
    go_wp2
    obtain ⟨bm, hbm⟩ : ∃ bm, bm = w.heap.size := ⟨_, rfl⟩
    rw [← hbm] at M0 ⊢
    have hbmw : w.heap.size ≤ bm := by omega
    clear hbm
    go_loopw [15] (fun v wr => ∃ (i : Nat) (D : DataW Value), i ≤ l1.length ∧ v = .int .i64 i ∧ Aside0 (CM wr bm i D (l1.take i)) ∧ Aside0 (Below w.heap.size w wr)) (fun v _ => l1.length - (intOf v).toNat)
    case atStart => exact ⟨0, _, Nat.zero_le _, rfl, M0, B0⟩
    case round =>
      clear M0 B0
      obtain ⟨i, D, hi, rfl, M, S1⟩ := hrel
      by_cases hlt : i < l1.length
      · have hC1 := Kd.C_below HR1.out S1.out
        obtain ⟨ad, rfl, x0, x1, x2, x3, x4⟩ := at_T23 hC1 (i : Int) (by omega) (by omega)
        simp only [Int.toNat_natCast] at x0 x1 x2 x3 x4
        have Y0 : rd_T23 l1 (i : Int) = l1.getD i z23 := by unfold rd_T23; rw [Int.toNat_natCast]
        rw [Y0] at x0 x1 x2 x3 x4
        have htk := take_get l1 i hlt
        have hys := HS1.out i hlt
        clear Y0 hC1
        generalize l1.getD i z23 = y at x0 x1 x2 x3 x4 htk hys
        have hbal : Below wr.heap.size wr (wr.alloc (.cells (enc23 y).toArray 23)) := below_alloc (Below.refl _ _) _
        obtain ⟨w3, D3, hrun3, hM3, hturn3⟩ := (M.out.below hbal).put (by simp only [maxLen]; omega) y hys
        unfold agg23 at hrun3
        rw [← htk] at hM3
        have hT3 : Below w.heap.size w w3 := (below_step S1.out hbal).trans (below_of_turned hturn3 hbmw (below_step S1.out hbal).size)
        clear htk hys hturn3
        go_wp2
        go_roundw
        case rel => exact ⟨i + 1, D3, by omega, by go_num, ⟨hM3⟩, ⟨hT3⟩⟩
        case measure => simp [intOf]; omega
      · have hie : i = l1.length := by omega
        subst hie
        rw [List.take_length] at M
        go_wp2
        have ⟨w1, hw1⟩ : ∃ x, x = wr := ⟨wr, rfl⟩
        subst hw1
        have hg0 := HH.out
        go_loopw [26] (fun v wr => ∃ (i : Nat), i ≤ l0.length ∧ v = .int .i64 i ∧ Aside0 (cov.go l1 (l0.drop i) = some r) ∧ Aside0 (CM wr bm l1.length D l1) ∧ Aside0 (Below w.heap.size w wr)) (fun v _ => l0.length - (intOf v).toNat)
        case atStart => exact ⟨0, Nat.zero_le _, rfl, ⟨hg0⟩, M, S1⟩
        case round =>
          clear M S1 hg0
          obtain ⟨i, hi, rfl, I, M, S1⟩ := hrel
          by_cases hlt : i < l0.length
          · have hC1 := Kd.C_below HR0.out S1.out
            obtain ⟨ad, rfl, x0, x1, x2, x3, x4⟩ := at_T23 hC1 (i : Int) (by omega) (by omega)
            simp only [Int.toNat_natCast] at x0 x1 x2 x3 x4
            have Y0 : rd_T23 l0 (i : Int) = l0.getD i z23 := by unfold rd_T23; rw [Int.toNat_natCast]
            rw [Y0] at x0 x1 x2 x3 x4
            have hI := I.out
            rw [drop_get l0 i hlt, cov.go] at hI
            have hys := HS0.out i hlt
            clear Y0 hC1 I
            generalize l0.getD i z23 = y at x0 x1 x2 x3 x4 hI hys
            have hbal : Below wr.heap.size wr (wr.alloc (.cells (enc23 y).toArray 23)) := below_alloc (Below.refl _ _) _
            have hlook := (M.out.below hbal).look y.f0 hys
            have hnew := heap_alloc_new wr (.cells (enc23 y).toArray 23 (0, 0))
            cases hx : cov.last l1 y.f0 with
            | none =>
              rw [hx] at hI hlook
              have hrf : r = false := by simpa using hI.symm
              subst hrf
              simp only [Option.getD_none, Option.isSome_none] at hlook
              unfold agg23 at hlook
              go_wp2
              go_ret
              exact ⟨rfl, below_step S1.out (below_alloc hbal _)⟩
            | some x =>
              rw [hx] at hI hlook
              simp only [Option.getD_some, Option.isSome_some] at hlook
              unfold agg23 at hlook
              obtain ⟨b, hb1, hb2⟩ := Option.bind_eq_some_iff.1 hI
              clear hI
              have hbal2 : Below wr.heap.size wr ((wr.alloc (.cells (enc23 y).toArray 23)).alloc (.cells (enc23 x).toArray 23)) := below_alloc hbal _
              cases b with
              | false =>
                have hrf : r = false := by simpa using hb2.symm
                subst hrf
                go_wp2_with (first | (go_at_call 26; (with_reducible refine (rel_wider.calls _ _ _ _ _ _ _ _ _ _ false _ hb1).mono ?_); rintro e w4 ⟨rfl, hb4⟩) | go_in)
                go_ret
                exact ⟨rfl, below_step S1.out (below_step hbal2 hb4)⟩
              | true =>
                have hb3 : cov.go l1 (l0.drop (i + 1)) = some r := by simpa using hb2
                go_wp2_with (first | (go_at_call 26; (with_reducible refine (rel_wider.calls _ _ _ _ _ _ _ _ _ _ true _ hb1).mono ?_); rintro e w4 ⟨rfl, hb4⟩) | go_in)
                go_roundw
                case rel => exact ⟨i + 1, by omega, by go_num, ⟨hb3⟩, ⟨M.out.below (below_step hbal2 hb4)⟩, ⟨below_step S1.out (below_step hbal2 hb4)⟩⟩
                case measure => simp [intOf]; omega
          · have hie : i = l0.length := by omega
            subst hie
            have hrt : r = true := by have := I.out; simpa [cov.go] using this.symm
            subst hrt
            go_wp2
            go_ret
            exact ⟨rfl, S1.out⟩
  · cases h
end Go.Proofs.Ytfabnapjbgamaaa.MRelTrue
