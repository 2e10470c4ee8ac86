import Derived.Test.YtfabnapjbgamaaaGreatDoorProg
import Derived.Tactics
import Derived.Tactics2
import Derived.Defers
import Derived.Laws.Pointers
import Derived.Laws.LoneSync
import Derived.RegionTactic
import Derived.RegionCalls
import Derived.ChangeAlike
import Derived.WalkKit
import Derived.WalkSpells
import Derived.Deep.MidRow
import Derived.Below
import Derived.Test.YtfabnapjbgamaaaGreatDoorVaB
import Derived.Test.YtfabnapjbgamaaaGreatDoorWLast
import Derived.Laws.CopyRow
import Derived.Lib.LazyBuf
import Derived.Laws.MakeOwn
import Derived.Laws.IdiomStrings
import Derived.Deep.CutBlock
import Derived.Test.YtfabnapjbgamaaaGreatDoorWWords
namespace Go.Proofs.YtfabnapjbgamaaaGreatDoor.Val
open Go.Proofs.YtfabnapjbgamaaaGreatDoorW.PrintLast Go.RowKit Go.Proofs.YtfabnapjbgamaaaGreatDoorW.PrintWords
set_option linter.unusedVariables false
set_option linter.unusedSimpArgs false
/-! ### (*strings.byteStringReplacer).Replace: function 176 -/
def spc (b : UInt8) : Bool := b == 34 || b == 92
def esc (l : List UInt8) : List UInt8 := l.flatMap fun b => if spc b then [92, b] else [b]
def cnt (l : List UInt8) : Nat := (l.filter spc).length
abbrev bt (s : ByteArray) (i : Nat) : UInt8 := s.data.toList.getD i 0
theorem take_bt (s : ByteArray) (i : Nat) (h : i < s.size) : s.data.toList.take (i + 1) = s.data.toList.take i ++ [bt s i] := by
  have h2 : i < s.data.toList.length := by simpa using h
  rw [List.take_succ_eq_append_getElem h2]
  unfold bt
  rw [List.getD_eq_getElem?_getD, List.getElem?_eq_getElem h2]
  rfl
theorem esc_snoc (l : List UInt8) (b : UInt8) : esc (l ++ [b]) = esc l ++ if spc b then [92, b] else [b] := by unfold esc; rw [List.flatMap_append]; simp
theorem cnt_snoc (l : List UInt8) (b : UInt8) : cnt (l ++ [b]) = cnt l + if spc b then 1 else 0 := by unfold cnt; rw [List.filter_append]; cases h : spc b <;> simp [h]
theorem esc_len (l : List UInt8) : (esc l).length = l.length + cnt l := by
  induction l with
  | nil => rfl
  | cons b t ih =>
    have e1 : esc (b :: t) = (if spc b then [92, b] else [b]) ++ esc t := by unfold esc; rw [List.flatMap_cons]
    have e2 : cnt (b :: t) = cnt t + if spc b then 1 else 0 := by unfold cnt; cases h : spc b <;> simp [h]
    rw [e1, e2, List.length_append, ih]
    cases h : spc b <;> simp <;> omega
theorem esc_none (l : List UInt8) (h : cnt l = 0) : esc l = l := by
  induction l with
  | nil => rfl
  | cons b t ih =>
    have e1 : esc (b :: t) = (if spc b then [92, b] else [b]) ++ esc t := by unfold esc; rw [List.flatMap_cons]
    have e2 : cnt (b :: t) = cnt t + if spc b then 1 else 0 := by unfold cnt; cases h : spc b <;> simp [h]
    rw [e2] at h
    cases hb : spc b
    · rw [hb] at h
      rw [e1, hb, ih (by simpa using h)]
      rfl
    · rw [hb] at h
      simp at h
theorem cnt_le (l : List UInt8) : cnt l ≤ l.length := List.length_filter_le _ _
theorem cnt_take (l : List UInt8) (i : Nat) : cnt (l.take i) ≤ i := Nat.le_trans (cnt_le _) (by rw [List.length_take]; omega)
theorem index_bt (s : ByteArray) (i : Nat) (h : i < s.size) (w : World) : (Instr.index 9 (.string s) (.int .i64 i)).run Tryz.prog w = .ok (.int .u8 (bt s i).toNat) w := by
  have h0 : (0 : Int) ≤ (i : Int) := by omega
  have h2 : i < s.data.toList.length := by simpa using h
  have e : bt s i = s[i] := by
    unfold bt
    rw [List.getD_eq_getElem?_getD, List.getElem?_eq_getElem h2]
    rfl
  rw [e]
  go_simp
theorem neqnil (w : World) (a : Option Addr) (l c : Nat) : (binOp .neq 90 (.slice a l c) (.slice none 0 0)).run Tryz.prog w = .ok (.bool (!a.isNone)) w := Go.run_neq_slice_nil w 90 5 a l c Tryz.underlying90
theorem BSR.below {w w1 : World} {g : Nat} (h : BSR w g) (hb : Below w.heap.size w w1) : BSR w1 g where
  none_ := fun i h1 h2 h3 => (hb.cell (p := ⟨g, i, none⟩) (lt_of_cell (h.none_ i h1 h2 h3))).trans (h.none_ i h1 h2 h3)
  at34 := by
    obtain ⟨b, c, h1, h2, h3⟩ := h.at34
    exact ⟨b, c, (hb.cell (p := ⟨g, 34, none⟩) (lt_of_cell h1)).trans h1, (hb.cell (p := ⟨b, 0, none⟩) (lt_of_cell h2)).trans h2, (hb.cell (p := ⟨b, 1, none⟩) (lt_of_cell h3)).trans h3⟩
  at92 := by
    obtain ⟨b, c, h1, h2, h3⟩ := h.at92
    exact ⟨b, c, (hb.cell (p := ⟨g, 92, none⟩) (lt_of_cell h1)).trans h1, (hb.cell (p := ⟨b, 0, none⟩) (lt_of_cell h2)).trans h2, (hb.cell (p := ⟨b, 1, none⟩) (lt_of_cell h3)).trans h3⟩
  row := by
    obtain ⟨A, c, h1⟩ := h.row
    exact ⟨A, c, (hb.cell (p := ⟨g, 256, none⟩) (lt_of_cell h1)).trans h1⟩
abbrev vb (b : UInt8) : Value := .int .u8 b.toNat
theorem cnt_mono (l : List UInt8) (i : Nat) : cnt (l.take i) ≤ cnt l := (((List.take_sublist i l).filter spc).length_le)
theorem info5 : (Tryz.prog.info? 5).map (fun i => (i.zero, i.size, i.bytes)) = some (some (.int .u8 0), 1, 1) := by kernel_rfl
theorem make90 (n : Nat) (h : n ≤ 1000) (w : World) : (Instr.makeSlice 90 (.int .i64 (n : Int)) (.int .i64 (n : Int))).run Tryz.prog w = .ok (.slice (some ⟨w.heap.size, 0, none⟩) n n) (w.alloc (.cells (madeCells #[.int .u8 0] n) 5)) := by
  obtain ⟨i0, hi, hzz⟩ := Option.map_eq_some_iff.1 info5
  simp only [Prod.mk.injEq] at hzz
  obtain ⟨hz0, hz1, hz2⟩ := hzz
  have h1 := run_makeSlice (P := Tryz.prog) (w := w) 90 5 i0 _ Tryz.underlying90 hi hz0 .i64 .i64 (n : Int) (n : Int) (by omega) (Int.le_refl _) (by rw [hz1]; omega) (by rw [hz2]; omega) (by omega)
  rw [hz1, Int.toNat_natCast, Nat.mul_one] at h1
  exact h1
/-- What loop 3 keeps: the bytes laid so far. -/
structure RB (w : World) (s : ByteArray) (m i q : Nat) (W : World) : Prop where
  bel : Below w.heap.size w W
  ex : ∃ D : Array Value, W.heap[w.heap.size]? = some (.cells D 5 (0, 0)) ∧ D.size = s.size + m ∧ D.toList.take q = (esc (s.data.toList.take i)).map vb
  len : q = i + cnt (s.data.toList.take i)
theorem rb_put {w W : World} {s : ByteArray} {m i q : Nat} (h : RB w s m i q W) (hi : i < s.size) (hc : spc (bt s i) = false) (hm : m = cnt s.data.toList) (v : Value) (hv : v = vb (bt s i)) : RB w s m (i + 1) (q + 1) (W.setCell ⟨w.heap.size, q, none⟩ v) := by
  obtain ⟨bel, ⟨D, h1, h2, h3⟩, h4⟩ := h
  have hq : q < D.size := by have := cnt_mono s.data.toList i; omega
  have e := take_bt s i hi
  refine ⟨bel.setCell (Nat.le_refl _) _, ⟨_, set_blk h1 q v, by simp [h2], ?_⟩, ?_⟩
  · rw [e, esc_snoc, hc, List.map_append, ← h3, Array.toList_setIfInBounds, List.take_succ_eq_append_getElem (by simp; exact hq), List.getElem_set_self, List.take_set, List.set_eq_of_length_le (by simp; omega), hv]
    rfl
  · rw [e, cnt_snoc, hc, h4]
    simp; omega
theorem rb_two {w W : World} {s : ByteArray} {m i q : Nat} (h : RB w s m i q W) (hi : i < s.size) (hc : spc (bt s i) = true) (hm : m = cnt s.data.toList) (D : Array Value) (hD : W.heap[w.heap.size]? = some (.cells D 5 (0, 0))) (v : Value) (hv : v = vb (bt s i)) :
    RB w s m (i + 1) (q + 2) (W.setRow w.heap.size (D.toList.take q ++ [Value.int .u8 92, v] ++ D.toList.drop (q + 2)).toArray) ∧ q + 2 ≤ D.size := by
  obtain ⟨bel, ⟨D2, h1, h2, h3⟩, h4⟩ := h
  rw [hD] at h1
  obtain rfl : D = D2 := by injection h1 with h1; injection h1
  have e := take_bt s i hi
  have hct : cnt (s.data.toList.take (i + 1)) = cnt (s.data.toList.take i) + 1 := by rw [e, cnt_snoc, hc]; rfl
  have hq : q + 2 ≤ D.size := by have := cnt_mono s.data.toList (i + 1); omega
  have hl : (D.toList.take q).length = q := by rw [List.length_take]; simp; omega
  refine ⟨⟨?_, ⟨_, setRow_heap W _ D _ 5 _ hD, ?_, ?_⟩, ?_⟩, hq⟩
  · refine bel.trans ⟨rfl, rfl, rfl, by simp [World.setRow], fun k hk => ?_⟩
    unfold World.setRow
    simp only [Array.getElem?_modify]
    rw [if_neg (by omega)]
  · simp
    omega
  · rw [List.append_assoc, List.take_append, hl, List.take_of_length_le (by omega)]
    rw [e, esc_snoc, hc, List.map_append, ← h3, hv, show q + 2 - q = 2 by omega]
    rfl
  · rw [hct, h4]
    omega
theorem slice68 (g n q : Nat) (hq : q < n) (W : World) : (Instr.slice 90 (.slice (some ⟨g, 0, none⟩) n n) (some (.int .i64 (q : Int))) none none).run Tryz.prog W = .ok (.slice (some ⟨g, q, none⟩) (n - q) (n - q)) W := by
  obtain ⟨i0, hi, hzz⟩ := Option.map_eq_some_iff.1 info5
  simp only [Prod.mk.injEq] at hzz
  have h := cut_from (P := Tryz.prog) 90 5 .i64 Tryz.underlying90 hi 1 hzz.2.1 (some ⟨g, 0, none⟩) n n (q : Int) (by omega) (by omega) W
  rw [Int.toNat_natCast, if_neg (by omega), Nat.mul_one, Option.map_some, add_plain] at h
  exact h
theorem copy68 {W : World} {g q n b c : Nat} {x : Int} {D : Array Value} (hD : W.heap[g]? = some (.cells D 5 (0, 0))) (h0 : W.cell? ⟨b, 0, none⟩ = some (.int .u8 92)) (h1 : W.cell? ⟨b, 1, none⟩ = some (.int .u8 x)) (hq : q + 2 ≤ n) (hn : D.size = n) :
    (Builtin.copy_ #[90, 90] 3 #[.slice (some ⟨g, q, none⟩) (n - q) (n - q), .slice (some ⟨b, 0, none⟩) 2 c]).run Tryz.prog W = .ok (.int .i64 2) (W.setRow g (D.toList.take q ++ [Value.int .u8 92, Value.int .u8 x] ++ D.toList.drop (q + 2)).toArray) := by
  have h := run_copy_row (P := Tryz.prog) W 90 90 3 5 g q (n - q) (n - q) ⟨b, 0, none⟩ 2 c D 5 [Value.int .u8 92, Value.int .u8 x] Tryz.underlying90 (by kernel_rfl) hD (by show 2 = Nat.min 2 (n - q); exact (Nat.min_eq_left (by omega)).symm) (fun j v hj => ?_) (by simp; omega) (by intro v hv; simp at hv; rcases hv with rfl | rfl <;> rfl)
  · exact h
  · rw [add_plain]
    match j, hj with
    | 0, hj => simp at hj; rw [← hj]; exact h0
    | 1, hj => simp at hj; rw [← hj]; exact h1
theorem step_copyrun {ops : Array Oper} {oi : Oper} {a : Act} {Q : Exit → Act → World → Prop} {K : Act → World → Prop} {W w1 : World} {N : Option Tmp} {v u v1 : Value} {T U : TypeId} (hw : Region.wanted oi (yielded ops a.tmps) = true) (hN : oi.dst = N) (s x : Operand) (ho : oi.op = .call { callee := .builtin .copy, args := #[s, x], argTypes := #[T, T] })
    (ht : oi.type = U) (hs : a.eval s = v) (hx : a.eval x = u) (hrun : (Builtin.copy_ #[T, T] U #[v, u]).run Tryz.prog W = .ok v1 w1) (h : K (a.put N v1) w1) :
    if Region.wanted oi (yielded ops a.tmps) = true then Oper.wp Tryz.prog oi a W K Q else K (a.put N undef) W := by
  refine value_ hw hN ?_ h
  unfold execOp
  simp only [ho, ht, resolve, invoke, builtin, Sem.run_bind, Sem.run_pure, Result.andThen_ok, List.map_toArray, List.map_cons, List.map_nil, hs, hx, hrun]
theorem rb_drew {w W : World} {s : ByteArray} {m i q g : Nat} {D : Array Value} (h : RB w s m i q (W.setRow g D)) : RB w s m i q (W.drew.setRow g D) :=
  ⟨⟨h.bel.os, h.bel.tape, h.bel.output, h.bel.size, h.bel.block⟩, h.ex, h.len⟩
set_option maxRecDepth 1000000 in
set_option maxHeartbeats 3200000 in
theorem replace_calls (g : Nat) (s : ByteArray) (w : World) (hs : s.size ≤ 15) (HB : BSR w g) :
    Calls Tryz.prog 159 #[.pointer (some ⟨g, 0, none⟩), .string s] w fun e w' => e = .returned (.string ⟨(esc s.data.toList).toArray⟩) ∧ Below w.heap.size w w' := by
  have hu175 := Tryz.underlying175
  have hu173 := Tryz.underlying173
  obtain ⟨Ar, cr, hrow⟩ := HB.row
  obtain ⟨b34, c34, p34, q34, r34⟩ := HB.at34
  obtain ⟨b92, c92, p92, q92, r92⟩ := HB.at92
  have hno := HB.none_
  have HNO := Aside0.mk hno
  clear hno HB
  have hd16 : decide ((16 : Int) ≤ (s.size : Int)) = false := by simp; omega
  have hneq := neqnil
  go_enter Tryz.func159, Tryz.ntmps159
  go_wp2
  go_loop [5, 6, 10] (fun s5 s6 s10 => ∃ i m : Nat, i ≤ s.size ∧ m ≤ i ∧ s10 = .int .i64 i ∧ s5 = .int .i64 ((s.size : Int) + (m : Int)) ∧ s6 = .bool (decide (0 < m)) ∧ Aside0 (m = cnt (s.data.toList.take i))) (fun _ _ s10 => s.size - (intOf s10).toNat)
  case atStart => exact ⟨0, 0, Nat.zero_le _, Nat.le_refl _, rfl, by simp, by simp, ⟨by simp [cnt]⟩⟩
  case round =>
    obtain ⟨i, m, hi, hmi, rfl, rfl, rfl, HM⟩ := hrel
    by_cases hlt : i < s.size
    · have hidx := index_bt s i hlt w
      have HSN : Aside0 (cnt (s.data.toList.take (i + 1)) = m + if spc (bt s i) then 1 else 0) := ⟨by rw [take_bt s i hlt, cnt_snoc, HM.out]⟩
      by_cases c1 : bt s i = 34
      · rw [c1] at hidx HSN
        have hidx2 : (Instr.index 9 (.string s) (.int .i64 i)).run Tryz.prog w = .ok (.int .u8 34) w := hidx
        have HN : Aside0 (m + 1 = cnt (s.data.toList.take (i + 1))) := ⟨HSN.out.symm⟩
        clear hidx c1 HSN HM
        go_wp2
        go_round
        case rel => exact ⟨i + 1, m + 1, by omega, by omega, by go_num, by go_num, by simp, HN⟩
        case measure => simp [intOf]; omega
      · by_cases c2 : bt s i = 92
        · rw [c2] at hidx HSN
          have hidx2 : (Instr.index 9 (.string s) (.int .i64 i)).run Tryz.prog w = .ok (.int .u8 92) w := hidx
          have HN : Aside0 (m + 1 = cnt (s.data.toList.take (i + 1))) := ⟨HSN.out.symm⟩
          clear hidx c1 c2 HSN HM
          go_wp2
          go_round
          case rel => exact ⟨i + 1, m + 1, by omega, by omega, by go_num, by go_num, by simp, HN⟩
          case measure => simp [intOf]; omega
        · have hsp : spc (bt s i) = false := by unfold spc; rw [beq_eq_false_iff_ne.2 c1, beq_eq_false_iff_ne.2 c2]; rfl
          rw [hsp] at HSN
          have HN : Aside0 (m = cnt (s.data.toList.take (i + 1))) := ⟨HSN.out.symm⟩
          have hlt8 : (bt s i).toNat < 256 := UInt8.toNat_lt _
          have hc := HNO.out (bt s i).toNat hlt8 (fun e => c1 (UInt8.toNat_inj.1 e)) (fun e => c2 (UInt8.toNat_inj.1 e))
          clear c1 c2 hsp HSN HM
          generalize (bt s i).toNat = n at hidx hlt8 hc
          go_wp2
          go_round
          case rel => exact ⟨i + 1, m, by omega, by omega, by go_num, rfl, rfl, HN⟩
          case measure => simp [intOf]; omega
    · obtain rfl : i = s.size := by omega
      by_cases h0 : 0 < m
      · have hmk := make90 (s.size + m) (by omega) w
        rw [Int.natCast_add] at hmk
        have hM : Aside0 (m = cnt s.data.toList) := ⟨by have h_ := HM.out; rw [List.take_of_length_le (by simp)] at h_; exact h_⟩
        have hat0 : Aside0 (RB w s m 0 0 (w.alloc (.cells (madeCells #[.int .u8 0] (s.size + m)) 5))) := ⟨{ bel := (Below.refl _ _).alloc (Nat.le_refl _) _, ex := ⟨_, heap_alloc_last w _, by rw [size_madeCells], by simp [esc]⟩, len := by simp [cnt] }⟩
        clear HM
        have P34 := Aside0.mk p34
        have P92 := Aside0.mk p92
        have Q34 := Aside0.mk q34
        have Q92 := Aside0.mk q92
        have R34 := Aside0.mk r34
        have R92 := Aside0.mk r92
        go_wp2
        clear hmk p34 p92 q34 q92 r34 r92
        go_loopw [13, 14] (fun s13 s14 wr => ∃ i q : Nat, i ≤ s.size ∧ q ≤ 2 * i ∧ s14 = .int .i64 i ∧ s13 = .int .i64 q ∧ Aside0 (RB w s m i q wr)) (fun _ s14 _ => s.size - (intOf s14).toNat)
        case atStart => exact ⟨0, 0, Nat.zero_le _, Nat.zero_le _, rfl, rfl, hat0⟩
        case round =>
          clear hat0
          obtain ⟨i, q, hi, hqi, rfl, rfl, HB⟩ := hrel
          by_cases hlt : i < s.size
          · obtain ⟨bel, ⟨D, hD, hDs, hDt⟩, hql0⟩ := HB.out
            have hql := Aside0.mk hql0
            clear hql0
            have hmm : ((s.size + m : Nat) : Int) ≤ 100 := by omega
            have hidx := index_bt s i hlt wr
            have hno1 := Aside0.mk (fun j h1 h2 h3 => (bel.cell (p := ⟨g, j, none⟩) (lt_of_cell (HNO.out j h1 h2 h3))).trans (HNO.out j h1 h2 h3))
            by_cases k43 : bt s i = 34
            · skip
              rw [k43] at hidx
              have hidx2 : (Instr.index 9 (.string s) (.int .i64 i)).run Tryz.prog wr = .ok (.int .u8 34) wr := hidx
              have hcell : wr.cell? ⟨g, 34, none⟩ = some (.slice (some ⟨b34, 0, none⟩) 2 c34) := (bel.cell (p := ⟨g, 34, none⟩) (lt_of_cell P34.out)).trans P34.out
              have hx0 := Aside0.mk ((bel.cell (p := ⟨b34, 0, none⟩) (lt_of_cell Q34.out)).trans Q34.out)
              have hx1 := Aside0.mk ((bel.cell (p := ⟨b34, 1, none⟩) (lt_of_cell R34.out)).trans R34.out)
              have hsp : spc (bt s i) = true := by unfold spc; rw [k43]; rfl
              have HT := Aside0.mk (rb_two HB.out hlt hsp hM.out D hD (.int .u8 34) (by rw [k43]; rfl))
              have hq2 : q + 2 ≤ s.size + m := by have := HT.out.2; omega
              have hsl := slice68 w.heap.size (s.size + m) q (by omega)
              rw [Int.natCast_add] at hmm
              have HD := Aside0.mk hD
              clear hidx k43 hsp hD hDt
              go_upto_region 28 with (fail)
              refine start_ (n := 13) (S := fun w' => w'.cell? ⟨g, 34, none⟩ = some (.slice (some ⟨b34, 0, none⟩) 2 c34) ∧ True) (ds := [10]) #[false, false, false, false, false, false, false, false, false, false, false, false, false] (by kernel_rfl) rfl rfl ⟨hcell, trivial⟩ (fun hHeld => ?_)
              refine pure_ (i := 0) (N := (some 102)) (v := ?_) (a' := ?_) #[true, false, false, false, false, false, false, false, false, false, false, false, false] rfl rfl (by kernel_rfl) (fun _ _ _ h => h) (Or.inl ⟨by rfl, ?_⟩) ?_ ?_
              rotate_left
              · intro w'
                go_simp
                with_reducible rfl
              rotate_left
              · simp only [Act.put, List.setIfInBounds_toArray, List.set_cons_zero, List.set_cons_succ, i64_w, i32_w]
                rfl
              refine pure_ (i := 1) (N := (some 103)) (v := ?_) (a' := ?_) #[true, true, false, false, false, false, false, false, false, false, false, false, false] rfl rfl (by kernel_rfl) (fun _ _ _ h => h) (Or.inl ⟨by rfl, ?_⟩) ?_ ?_
              rotate_left
              · intro w'
                go_simp
                with_reducible rfl
              rotate_left
              · simp only [Act.put, List.setIfInBounds_toArray, List.set_cons_zero, List.set_cons_succ, i64_w, i32_w]
                rfl
              refine pure_ (i := 2) (N := (some 104)) (v := ?_) (a' := ?_) #[true, true, true, false, false, false, false, false, false, false, false, false, false] rfl rfl (by kernel_rfl) (fun _ _ _ h => h) (Or.inl ⟨by rfl, ?_⟩) ?_ ?_
              rotate_left
              · intro w'
                go_simp
                with_reducible rfl
              rotate_left
              · simp only [Act.put, List.setIfInBounds_toArray, List.set_cons_zero, List.set_cons_succ, i64_w, i32_w]
                rfl
              refine pure_ (i := 3) (N := (some 105)) (v := ?_) (a' := ?_) #[true, true, true, true, false, false, false, false, false, false, false, false, false] rfl rfl (by kernel_rfl) (fun _ _ _ h => h) (Or.inl ⟨by rfl, ?_⟩) ?_ ?_
              rotate_left
              · intro w'
                go_simp
                with_reducible rfl
              rotate_left
              · simp only [Act.put, List.setIfInBounds_toArray, List.set_cons_zero, List.set_cons_succ, i64_w, i32_w]
                rfl
              refine pure_ (i := 4) (N := (some 106)) (v := ?_) (a' := ?_) #[true, true, true, true, true, false, false, false, false, false, false, false, false] rfl rfl (by kernel_rfl) (fun _ _ _ h => h) (Or.inl ⟨by rfl, ?_⟩) ?_ ?_
              rotate_left
              · intro w'
                go_simp
                with_reducible rfl
              rotate_left
              · simp only [Act.put, List.setIfInBounds_toArray, List.set_cons_zero, List.set_cons_succ, i64_w, i32_w]
                rfl
              refine pure_ (i := 5) (N := (some 107)) (v := ?_) (a' := ?_) #[true, true, true, true, true, true, false, false, false, false, false, false, false] rfl rfl (by kernel_rfl) (fun _ _ _ h => h) (Or.inl ⟨by rfl, ?_⟩) ?_ ?_
              rotate_left
              · intro w'
                go_simp
                with_reducible rfl
              rotate_left
              · simp only [Act.put, List.setIfInBounds_toArray, List.set_cons_zero, List.set_cons_succ, i64_w, i32_w]
                rfl
              refine pure_ (i := 6) (N := (some 108)) (v := ?_) (a' := ?_) #[true, true, true, true, true, true, true, false, false, false, false, false, false] rfl rfl (by kernel_rfl) (fun _ _ _ h => h) (Or.inl ⟨by rfl, ?_⟩) ?_ ?_
              rotate_left
              · intro w'
                go_simp
                with_reducible rfl
              rotate_left
              · simp only [Act.put, List.setIfInBounds_toArray, List.set_cons_zero, List.set_cons_succ, i64_w, i32_w]
                rfl
              refine pure_ (i := 7) (N := (some 109)) (v := ?_) (a' := ?_) #[true, true, true, true, true, true, true, true, false, false, false, false, false] rfl rfl (by kernel_rfl) (fun _ _ _ h => h) (Or.inl ⟨by rfl, ?_⟩) ?_ ?_
              rotate_left
              · intro w'
                go_simp
                with_reducible rfl
              rotate_left
              · simp only [Act.put, List.setIfInBounds_toArray, List.set_cons_zero, List.set_cons_succ, i64_w, i32_w]
                rfl
              refine pure_ (i := 8) (N := (some 110)) (v := ?_) (a' := ?_) #[true, true, true, true, true, true, true, true, true, false, false, false, false] rfl rfl (by kernel_rfl) (fun _ _ _ h => h) (Or.inl ⟨by rfl, ?_⟩) ?_ ?_
              rotate_left
              · intro w'
                go_simp
                with_reducible rfl
              rotate_left
              · simp only [Act.put, List.setIfInBounds_toArray, List.set_cons_zero, List.set_cons_succ, i64_w, i32_w]
                rfl
              refine take_ (i := 9) (N := (some 111)) (v := ?_) (a' := ?_) #[true, true, true, true, true, true, true, true, true, true, false, false, false] rfl rfl (by kernel_rfl) (fun _ _ _ h => h) (Or.inl ⟨by rfl, ?_⟩) hHeld ?_ ?_
              rotate_left
              · rintro w' ⟨s0, s1⟩
                go_simp
                with_reducible rfl
              rotate_left
              · simp only [Act.put, List.setIfInBounds_toArray, List.set_cons_zero, List.set_cons_succ, i64_w, i32_w]
                rfl
              refine last_ (i := 10) (N := (some 112)) #[true, true, true, true, true, true, true, true, true, true, true, false, false] rfl rfl (by kernel_rfl) (by decide) (fun K hK => ?_)
              refine step_copyrun (by rfl) rfl (.tmp 105) (.tmp 111) rfl rfl (by rfl) (by rfl) (copy68 (W := wr.drew) (g := w.heap.size) (q := q) (n := s.size + m) (b := b34) (c := c34) (x := 34) HD.out hx0.out hx1.out (by omega) (by omega)) ?_
              refine hK.out _ _ ?_
              clear hK K
              refine norm_ (a' := ?_) ?_ ?_
              rotate_left
              · show Act.put _ (some 112) _ = _
                simp only [Act.put, List.setIfInBounds_toArray, List.set_cons_zero, List.set_cons_succ, i64_w, i32_w]
                rfl
              refine pure_ (i := 11) (N := (some 113)) (v := ?_) (a' := ?_) #[true, true, true, true, true, true, true, true, true, true, true, true, false] rfl rfl (by kernel_rfl) (fun _ _ _ h => h) (Or.inl ⟨by rfl, ?_⟩) ?_ ?_
              rotate_left
              · intro w'
                go_simp
                with_reducible rfl
              rotate_left
              · simp only [Act.put, List.setIfInBounds_toArray, List.set_cons_zero, List.set_cons_succ, i64_w, i32_w]
                rfl
              refine pure_ (i := 12) (N := (some 13)) (v := ?_) (a' := ?_) #[true, true, true, true, true, true, true, true, true, true, true, true, true] rfl rfl (by kernel_rfl) (fun _ _ _ h => h) (Or.inl ⟨by rfl, ?_⟩) ?_ ?_
              rotate_left
              · intro w'
                go_simp
                with_reducible rfl
              rotate_left
              · simp only [Act.put, List.setIfInBounds_toArray, List.set_cons_zero, List.set_cons_succ, i64_w, i32_w]
                rfl
              refine done_ (by kernel_rfl) ?_
              have HN : Aside0 (RB w s m (i + 1) (q + 2) (wr.drew.setRow w.heap.size (D.toList.take q ++ [Value.int .u8 92, Value.int .u8 34] ++ D.toList.drop (q + 2)).toArray)) := ⟨rb_drew HT.out.1⟩
              generalize wr.drew.setRow w.heap.size (D.toList.take q ++ [Value.int .u8 92, Value.int .u8 34] ++ D.toList.drop (q + 2)).toArray = W2 at HN ⊢
              clear HT HD hx0 hx1 hcell hidx2 hsl HB bel
              go_wp2
              go_roundw
              case rel => exact ⟨i + 1, q + 2, by omega, by omega, by go_num, by congr 1; unfold Go.RowKit.wrap64; omega, HN⟩
              case measure => simp [intOf]; omega
            · by_cases k97 : bt s i = 92
              · skip
                rw [k97] at hidx
                have hidx2 : (Instr.index 9 (.string s) (.int .i64 i)).run Tryz.prog wr = .ok (.int .u8 92) wr := hidx
                have hcell : wr.cell? ⟨g, 92, none⟩ = some (.slice (some ⟨b92, 0, none⟩) 2 c92) := (bel.cell (p := ⟨g, 92, none⟩) (lt_of_cell P92.out)).trans P92.out
                have hx0 := Aside0.mk ((bel.cell (p := ⟨b92, 0, none⟩) (lt_of_cell Q92.out)).trans Q92.out)
                have hx1 := Aside0.mk ((bel.cell (p := ⟨b92, 1, none⟩) (lt_of_cell R92.out)).trans R92.out)
                have hsp : spc (bt s i) = true := by unfold spc; rw [k97]; rfl
                have HT := Aside0.mk (rb_two HB.out hlt hsp hM.out D hD (.int .u8 92) (by rw [k97]; rfl))
                have hq2 : q + 2 ≤ s.size + m := by have := HT.out.2; omega
                have hsl := slice68 w.heap.size (s.size + m) q (by omega)
                rw [Int.natCast_add] at hmm
                have HD := Aside0.mk hD
                clear hidx k97 hsp hD hDt
                go_upto_region 28 with (fail)
                refine start_ (n := 13) (S := fun w' => w'.cell? ⟨g, 92, none⟩ = some (.slice (some ⟨b92, 0, none⟩) 2 c92) ∧ True) (ds := [10]) #[false, false, false, false, false, false, false, false, false, false, false, false, false] (by kernel_rfl) rfl rfl ⟨hcell, trivial⟩ (fun hHeld => ?_)
                refine pure_ (i := 0) (N := (some 102)) (v := ?_) (a' := ?_) #[true, false, false, false, false, false, false, false, false, false, false, false, false] rfl rfl (by kernel_rfl) (fun _ _ _ h => h) (Or.inl ⟨by rfl, ?_⟩) ?_ ?_
                rotate_left
                · intro w'
                  go_simp
                  with_reducible rfl
                rotate_left
                · simp only [Act.put, List.setIfInBounds_toArray, List.set_cons_zero, List.set_cons_succ, i64_w, i32_w]
                  rfl
                refine pure_ (i := 1) (N := (some 103)) (v := ?_) (a' := ?_) #[true, true, false, false, false, false, false, false, false, false, false, false, false] rfl rfl (by kernel_rfl) (fun _ _ _ h => h) (Or.inl ⟨by rfl, ?_⟩) ?_ ?_
                rotate_left
                · intro w'
                  go_simp
                  with_reducible rfl
                rotate_left
                · simp only [Act.put, List.setIfInBounds_toArray, List.set_cons_zero, List.set_cons_succ, i64_w, i32_w]
                  rfl
                refine pure_ (i := 2) (N := (some 104)) (v := ?_) (a' := ?_) #[true, true, true, false, false, false, false, false, false, false, false, false, false] rfl rfl (by kernel_rfl) (fun _ _ _ h => h) (Or.inl ⟨by rfl, ?_⟩) ?_ ?_
                rotate_left
                · intro w'
                  go_simp
                  with_reducible rfl
                rotate_left
                · simp only [Act.put, List.setIfInBounds_toArray, List.set_cons_zero, List.set_cons_succ, i64_w, i32_w]
                  rfl
                refine pure_ (i := 3) (N := (some 105)) (v := ?_) (a' := ?_) #[true, true, true, true, false, false, false, false, false, false, false, false, false] rfl rfl (by kernel_rfl) (fun _ _ _ h => h) (Or.inl ⟨by rfl, ?_⟩) ?_ ?_
                rotate_left
                · intro w'
                  go_simp
                  with_reducible rfl
                rotate_left
                · simp only [Act.put, List.setIfInBounds_toArray, List.set_cons_zero, List.set_cons_succ, i64_w, i32_w]
                  rfl
                refine pure_ (i := 4) (N := (some 106)) (v := ?_) (a' := ?_) #[true, true, true, true, true, false, false, false, false, false, false, false, false] rfl rfl (by kernel_rfl) (fun _ _ _ h => h) (Or.inl ⟨by rfl, ?_⟩) ?_ ?_
                rotate_left
                · intro w'
                  go_simp
                  with_reducible rfl
                rotate_left
                · simp only [Act.put, List.setIfInBounds_toArray, List.set_cons_zero, List.set_cons_succ, i64_w, i32_w]
                  rfl
                refine pure_ (i := 5) (N := (some 107)) (v := ?_) (a' := ?_) #[true, true, true, true, true, true, false, false, false, false, false, false, false] rfl rfl (by kernel_rfl) (fun _ _ _ h => h) (Or.inl ⟨by rfl, ?_⟩) ?_ ?_
                rotate_left
                · intro w'
                  go_simp
                  with_reducible rfl
                rotate_left
                · simp only [Act.put, List.setIfInBounds_toArray, List.set_cons_zero, List.set_cons_succ, i64_w, i32_w]
                  rfl
                refine pure_ (i := 6) (N := (some 108)) (v := ?_) (a' := ?_) #[true, true, true, true, true, true, true, false, false, false, false, false, false] rfl rfl (by kernel_rfl) (fun _ _ _ h => h) (Or.inl ⟨by rfl, ?_⟩) ?_ ?_
                rotate_left
                · intro w'
                  go_simp
                  with_reducible rfl
                rotate_left
                · simp only [Act.put, List.setIfInBounds_toArray, List.set_cons_zero, List.set_cons_succ, i64_w, i32_w]
                  rfl
                refine pure_ (i := 7) (N := (some 109)) (v := ?_) (a' := ?_) #[true, true, true, true, true, true, true, true, false, false, false, false, false] rfl rfl (by kernel_rfl) (fun _ _ _ h => h) (Or.inl ⟨by rfl, ?_⟩) ?_ ?_
                rotate_left
                · intro w'
                  go_simp
                  with_reducible rfl
                rotate_left
                · simp only [Act.put, List.setIfInBounds_toArray, List.set_cons_zero, List.set_cons_succ, i64_w, i32_w]
                  rfl
                refine pure_ (i := 8) (N := (some 110)) (v := ?_) (a' := ?_) #[true, true, true, true, true, true, true, true, true, false, false, false, false] rfl rfl (by kernel_rfl) (fun _ _ _ h => h) (Or.inl ⟨by rfl, ?_⟩) ?_ ?_
                rotate_left
                · intro w'
                  go_simp
                  with_reducible rfl
                rotate_left
                · simp only [Act.put, List.setIfInBounds_toArray, List.set_cons_zero, List.set_cons_succ, i64_w, i32_w]
                  rfl
                refine take_ (i := 9) (N := (some 111)) (v := ?_) (a' := ?_) #[true, true, true, true, true, true, true, true, true, true, false, false, false] rfl rfl (by kernel_rfl) (fun _ _ _ h => h) (Or.inl ⟨by rfl, ?_⟩) hHeld ?_ ?_
                rotate_left
                · rintro w' ⟨s0, s1⟩
                  go_simp
                  with_reducible rfl
                rotate_left
                · simp only [Act.put, List.setIfInBounds_toArray, List.set_cons_zero, List.set_cons_succ, i64_w, i32_w]
                  rfl
                refine last_ (i := 10) (N := (some 112)) #[true, true, true, true, true, true, true, true, true, true, true, false, false] rfl rfl (by kernel_rfl) (by decide) (fun K hK => ?_)
                refine step_copyrun (by rfl) rfl (.tmp 105) (.tmp 111) rfl rfl (by rfl) (by rfl) (copy68 (W := wr.drew) (g := w.heap.size) (q := q) (n := s.size + m) (b := b92) (c := c92) (x := 92) HD.out hx0.out hx1.out (by omega) (by omega)) ?_
                refine hK.out _ _ ?_
                clear hK K
                refine norm_ (a' := ?_) ?_ ?_
                rotate_left
                · show Act.put _ (some 112) _ = _
                  simp only [Act.put, List.setIfInBounds_toArray, List.set_cons_zero, List.set_cons_succ, i64_w, i32_w]
                  rfl
                refine pure_ (i := 11) (N := (some 113)) (v := ?_) (a' := ?_) #[true, true, true, true, true, true, true, true, true, true, true, true, false] rfl rfl (by kernel_rfl) (fun _ _ _ h => h) (Or.inl ⟨by rfl, ?_⟩) ?_ ?_
                rotate_left
                · intro w'
                  go_simp
                  with_reducible rfl
                rotate_left
                · simp only [Act.put, List.setIfInBounds_toArray, List.set_cons_zero, List.set_cons_succ, i64_w, i32_w]
                  rfl
                refine pure_ (i := 12) (N := (some 13)) (v := ?_) (a' := ?_) #[true, true, true, true, true, true, true, true, true, true, true, true, true] rfl rfl (by kernel_rfl) (fun _ _ _ h => h) (Or.inl ⟨by rfl, ?_⟩) ?_ ?_
                rotate_left
                · intro w'
                  go_simp
                  with_reducible rfl
                rotate_left
                · simp only [Act.put, List.setIfInBounds_toArray, List.set_cons_zero, List.set_cons_succ, i64_w, i32_w]
                  rfl
                refine done_ (by kernel_rfl) ?_
                have HN : Aside0 (RB w s m (i + 1) (q + 2) (wr.drew.setRow w.heap.size (D.toList.take q ++ [Value.int .u8 92, Value.int .u8 92] ++ D.toList.drop (q + 2)).toArray)) := ⟨rb_drew HT.out.1⟩
                generalize wr.drew.setRow w.heap.size (D.toList.take q ++ [Value.int .u8 92, Value.int .u8 92] ++ D.toList.drop (q + 2)).toArray = W2 at HN ⊢
                clear HT HD hx0 hx1 hcell hidx2 hsl HB bel
                go_wp2
                go_roundw
                case rel => exact ⟨i + 1, q + 2, by omega, by omega, by go_num, by congr 1; unfold Go.RowKit.wrap64; omega, HN⟩
                case measure => simp [intOf]; omega
              · have hsp : spc (bt s i) = false := by unfold spc; rw [beq_eq_false_iff_ne.2 k43, beq_eq_false_iff_ne.2 k97]; rfl
                have hlt8 : (bt s i).toNat < 256 := UInt8.toNat_lt _
                have hc := hno1.out (bt s i).toNat hlt8 (fun e => k43 (UInt8.toNat_inj.1 e)) (fun e => k97 (UInt8.toNat_inj.1 e))
                have hq : q < s.size + m := by have := cnt_mono s.data.toList i; have := hM.out; have := hql.out; omega
                have HN : Aside0 (RB w s m (i + 1) (q + 1) (wr.setCell ⟨w.heap.size, q, none⟩ (.int .u8 (bt s i).toNat))) := ⟨rb_put HB.out hlt hsp hM.out _ rfl⟩
                have hcq : wr.cell? ⟨w.heap.size, q, none⟩ = some (D[q]'(by omega)) := (cell_blk hD q).trans (Array.getElem?_eq_getElem _)
                have hfq : wr.frozen? ⟨w.heap.size, q, none⟩ = false := frozen_blk hD q
                clear k43 k97 hsp hno1 hD hDt bel HB
                generalize (bt s i).toNat = n at hidx hlt8 hc HN
                generalize D[q] = dq at hcq
                rw [Int.natCast_add] at hmm
                go_wp2
                go_roundw
                case rel => exact ⟨i + 1, q + 1, by omega, by omega, by go_num, by go_num, HN⟩
                case measure => simp [intOf]; omega
          · obtain rfl : i = s.size := by omega
            obtain ⟨bel, ⟨D, hD, hDs, hDt⟩, hql⟩ := HB.out
            have et : s.data.toList.take s.size = s.data.toList := List.take_of_length_le (by simp)
            rw [et] at hDt hql
            have hqe : q = s.size + m := by have := hM.out; omega
            have hcv : (convert 90 9 (.slice (some ⟨w.heap.size, 0, none⟩) (s.size + m) (s.size + m))).run Tryz.prog wr = .ok (.string ⟨(esc s.data.toList).toArray⟩) wr := by
              have hl : (esc s.data.toList).length = s.size + m := by rw [esc_len, ← hM.out]; rfl
              rw [← hl]
              refine run_convert_bytes_back (P := Tryz.prog) wr 90 9 5 ⟨w.heap.size, 0, none⟩ _ (esc s.data.toList) Tryz.underlying90 Tryz.underlying5 Tryz.underlying9 (fun j hj => ?_)
              rw [add_plain, cell_blk hD j]
              rw [List.take_of_length_le (by simp; omega)] at hDt
              rw [← Array.getElem?_toList, hDt, List.getElem?_map, List.getElem?_eq_getElem hj]
              rfl
            have hbel := Aside0.mk bel
            clear hD hDt hql bel HB hqe et
            go_wp2
            go_ret
            exact ⟨rfl, hbel.out⟩
      · obtain rfl : m = 0 := by omega
        have HE : Aside0 (esc s.data.toList = s.data.toList) := ⟨esc_none _ (by have h_ := HM.out; rw [List.take_of_length_le (by simp)] at h_; exact h_.symm)⟩
        go_wp2
        go_ret
        exact ⟨by rw [HE.out, Array.toArray_toList]; rfl, Below.refl _ _⟩

end Go.Proofs.YtfabnapjbgamaaaGreatDoor.Val
