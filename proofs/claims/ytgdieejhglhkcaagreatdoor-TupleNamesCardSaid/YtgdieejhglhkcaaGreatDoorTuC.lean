import Derived.Test.YtgdieejhglhkcaaGreatDoorTuB
import Derived.Deep.LoopGhost
namespace Go.Proofs.YtgdieejhglhkcaaGreatDoor.MTup
open Go.RowKit Go.Lib Go.Proofs.YtgdieejhglhkcaaGreatDoorW.PrintWords Go.Proofs.YtgdieejhglhkcaaGreatDoorW.PrintLast Go.Proofs.YtgdieejhglhkcaaGreatDoorW.PrintMore
set_option linter.unusedVariables false
set_option linter.unusedSimpArgs false
theorem add_plain' (b o j : Nat) : (⟨b, o, none⟩ : Addr).add j = ⟨b, o + j, none⟩ := by unfold Addr.add; split <;> simp_all
theorem run_copy_rowK {P : Program} (w : World) (dT sT ty elem : TypeId) (K g o dLen dCap : Nat) (a : Addr) (sLen sCap : Nat) (cur : Array Value) (t : TypeId) (cs : List Value)
    (hu : P.underlying dT = some (.slice elem)) (hs : (P.info? elem).map (·.size) = some K)
    (hg : w.heap[g]? = some (.cells cur t (0, 0))) (hn : cs.length = Nat.min sLen dLen * K)
    (hsrc : ∀ j v, cs[j]? = some v → w.cell? (a.add j) = some v) (hfit : o + cs.length ≤ cur.size) (h1 : ∀ v ∈ cs, v.oneCell' = true) :
    (Builtin.copy_ #[dT, sT] ty #[.slice (some ⟨g, o, none⟩) dLen dCap, .slice (some a) sLen sCap]).run P w =
      .ok (goInt (Nat.min sLen dLen)) (w.setRow g (cur.toList.take o ++ cs ++ cur.toList.drop (o + cs.length)).toArray) := by
  have hl := run_loadCells_list (P := P) w a cs hsrc
  have hst := run_storeCells_at P g o t cs 0 cur w hg (by simpa using hfit) h1
  cases hq : P.info? elem with
  | none => simp [hq] at hs
  | some i =>
    have hi : i.size = K := by simpa [hq] using hs
    simp [Builtin.copy_, run_underlying hu, Builtin.lenOf, Builtin.firstCells, sizeOf, typeInfo, hq, hi, ← hn, hl, hst]
theorem wpList_copy_run {P : Program} (w : World) {ops : Array Oper} {rest : List Oper} {o : Oper} {a : Act} {Q : Exit → Act → World → Prop} (hgd : o.guard = none) (d s : Operand) (t t' : TypeId)
    (ho : o.op = .call { callee := .builtin .copy, args := #[d, s], argTypes := #[t, t'] }) (v u : Value) (hd : a.eval d = v) (hs : a.eval s = u) {v' : Value} {w' : World}
    (hr : (Builtin.copy_ #[t, t'] o.type #[v, u]).run P w = .ok v' w') (h : wpList P ops Q rest (a.put o.dst v') w') : wpList P ops Q (o :: rest) a w :=
  wpList_plain hgd fun K hK => by
    unfold Oper.wp execOp
    simp only [ho, resolve, invoke, builtin, Sem.run_bind, Sem.run_pure, Result.andThen_ok, List.map_toArray, List.map_cons, List.map_nil, hd, hs, hr]
    exact hK _ _ h

theorem reps_one_ {α : Type} (d : Kd α) {W : World} {ps : List α} {cs : List Value} (h : Reps (d.K W) d.sz ps cs) : ∀ v ∈ cs, v.oneCell' = true := by
  intro v hv
  obtain ⟨i, hi, rfl⟩ := List.getElem_of_mem hv
  have hl := h.1
  rcases Nat.eq_zero_or_pos d.sz with h0 | h0
  · rw [h0, Nat.mul_zero] at hl; omega
  · have hq : i / d.sz < ps.length := by rw [Nat.div_lt_iff_lt_mul h0]; omega
    have hp := h.2 (i / d.sz) (ps[i / d.sz]'hq) (List.getElem?_eq_getElem hq)
    refine d.K_one hp _ ?_
    have hm : i % d.sz < d.sz := Nat.mod_lt _ h0
    have he : i / d.sz * d.sz + i % d.sz = i := by rw [Nat.mul_comm]; exact Nat.div_add_mod i d.sz
    have : ((cs.drop (i / d.sz * d.sz)).take d.sz)[i % d.sz]? = some cs[i] := by
      rw [List.getElem?_take, if_pos hm, List.getElem?_drop, he, List.getElem?_eq_getElem hi]
    exact List.mem_of_getElem? this
theorem Kd_copy_run {P : Program} {α : Type} (d : Kd α) (dT sT ty elem : TypeId) (hu : P.underlying dT = some (.slice elem)) (hs : (P.info? elem).map (·.size) = some d.sz) {W : World} {base g N cap : Nat} {xs ys : List α} {ok okp : Nat → Prop}
    (HO : d.R elem W base ok (.slice (some ⟨g, 0, none⟩) N cap) xs) {A : Option Addr} {n c : Nat} (HC : d.C W A n ys) (hn : n ≤ N) (hpos : 0 < n) (hKM : ∀ x cs, d.K W x cs → d.M W base okp x cs) (hokp : ∀ k, okp k → ok k ∧ k ≠ g) :
    ∃ w1, (Builtin.copy_ #[dT, sT] ty #[.slice (some ⟨g, 0, none⟩) N cap, .slice A n c]).run P W = .ok (goInt n) w1 ∧ d.R elem w1 base ok (.slice (some ⟨g, 0, none⟩) N cap) (ys ++ xs.drop n) ∧ W.grownBy w1 (some g) := by
  obtain ⟨hl, h63, hrow⟩ := HC
  obtain ⟨a, rfl, hcells⟩ := hrow hpos
  have HR : ReadsRow (d.K W) d.sz W (some a) n ys := ⟨hl, h63, fun _ => ⟨a, rfl, hcells⟩⟩
  obtain ⟨cs, hrep, hsrc⟩ := ReadsRow.inner_ HR
  obtain ⟨hok, inner, ⟨hil, hown⟩, hreps⟩ := HO
  rcases hown with ⟨he, _⟩ | ⟨g', cap', cur, he, hb, hh, hnc, hcm, hcs, ht⟩
  · cases he
  · cases he
    have hcl : cs.length = n * d.sz := by rw [hrep.1, hl]
    have hle : n * d.sz ≤ xs.length * d.sz := Nat.mul_le_mul_right _ hn
    have hle2 : xs.length * d.sz ≤ cap * d.sz := Nat.mul_le_mul_right _ hnc
    have hrun := run_copy_rowK (P := P) W dT sT ty elem d.sz g 0 xs.length cap a n c cur elem cs hu hs hh (by rw [hcl, show n.min xs.length = n from Nat.min_eq_left hn]) hsrc (by omega) (reps_one_ d hrep)
    rw [show n.min xs.length = n from Nat.min_eq_left hn] at hrun
    refine ⟨_, hrun, ⟨hok, cs ++ inner.drop (n * d.sz), ⟨?_, .inr ⟨g, cap, _, ?_, hb, setRow_heap _ _ _ _ _ _ hh, ?_, hcm, ?_, ?_⟩⟩, ?_⟩, ?_⟩
    · simp only [List.length_append, List.length_drop, hcl, hil, hl]; rw [← Nat.sub_mul, ← Nat.add_mul]
    · simp [hl]; omega
    · simp [hl]; omega
    · simp [hcl, hcs]; omega
    · simp only [List.take_zero, List.nil_append, Nat.zero_add, List.length_append, hl, List.length_drop]
      rw [show n + (xs.length - n) = xs.length by omega, List.take_append, List.take_of_length_le (by omega), hcl, List.take_drop, ← ht]
      rw [show n * d.sz + (xs.length * d.sz - n * d.sz) = xs.length * d.sz by omega]
    · refine Kd.reps_append (hrep.imp_ (fun p cc hp => ?_)) (Kd.reps_drop (hreps.imp_ (fun p cc hp => ?_)))
      · exact d.M_mono (fun k hk => ⟨(hokp k hk.1).1, fun e => (hokp k hk.1).2 (by simpa [Value.ownBlock] using e)⟩) (d.M_move (fun k hk => setRow_other _ _ _ _ (hokp k hk.1).2) (d.M_bound (hKM _ _ hp)))
      · refine d.M_move (fun k hk => setRow_other _ _ _ _ (fun e => hk.2 (by rw [e]; rfl))) hp
    · refine ⟨rfl, rfl, rfl, by simp [World.setRow], fun k hk hne => setRow_other _ _ _ _ (fun e => hne (by rw [e]))⟩
theorem R_some_ {α : Type} {d : Kd α} {e : Nat} {w : World} {base : Nat} {ok : Nat → Prop} {v : Value} {xs : List α} (h : d.R e w base ok v xs) (hn : 0 < xs.length) : ∃ g cap, v = .slice (some ⟨g, 0, none⟩) xs.length cap ∧ base ≤ g ∧ xs.length ≤ cap ∧ cap ≤ maxLen := by
  obtain ⟨_, inner, ⟨_, ho⟩, _⟩ := h
  rcases ho with ⟨_, h0⟩ | ⟨g, cap, cur, rfl, hb, _, h1, h2, _⟩
  · omega
  · exact ⟨g, cap, rfl, hb, h1, h2⟩
theorem copy_zero {P : Program} (W : World) (dT sT ty elem g N cap c sz : Nat) (A : Option Addr) (hu : P.underlying dT = some (.slice elem)) (hs : (P.info? elem).map (·.size) = some sz) :
    (Builtin.copy_ #[dT, sT] ty #[.slice (some ⟨g, 0, none⟩) N cap, .slice A 0 c]).run P W = .ok (goInt 0) W := by
  obtain ⟨i, hi, _⟩ := Option.map_eq_some_iff.1 hs
  cases A with
  | none => simp [Builtin.copy_, run_underlying hu, Builtin.lenOf, Builtin.firstCells, sizeOf, typeInfo, hi, storeCells]
  | some a =>
    have hl := run_loadCells_list (P := P) W a [] (fun j v h => by simp at h)
    simp only [List.length_nil] at hl
    simp [Builtin.copy_, run_underlying hu, Builtin.lenOf, Builtin.firstCells, sizeOf, typeInfo, hi, hl, storeCells]
theorem Kd_copy_any {P : Program} {α : Type} (d : Kd α) (dT sT ty elem : TypeId) (hu : P.underlying dT = some (.slice elem)) (hs : (P.info? elem).map (·.size) = some d.sz) {W : World} {base g N cap : Nat} {xs ys : List α} {ok okp : Nat → Prop}
    (HO : d.R elem W base ok (.slice (some ⟨g, 0, none⟩) N cap) xs) {A : Option Addr} {n c : Nat} (HC : d.C W A n ys) (hn : n ≤ N) (hKM : ∀ x cs, d.K W x cs → d.M W base okp x cs) (hokp : ∀ k, okp k → ok k ∧ k ≠ g) :
    ∃ w1, (Builtin.copy_ #[dT, sT] ty #[.slice (some ⟨g, 0, none⟩) N cap, .slice A n c]).run P W = .ok (goInt n) w1 ∧ d.R elem w1 base ok (.slice (some ⟨g, 0, none⟩) N cap) (ys ++ xs.drop n) ∧ W.grownBy w1 (some g) := by
  rcases Nat.eq_zero_or_pos n with h0 | h0
  · subst h0
    have : ys = [] := List.eq_nil_of_length_eq_zero HC.1
    subst this
    exact ⟨W, copy_zero W dT sT ty elem g N cap c d.sz A hu hs, by simpa using HO, rfl, rfl, rfl, Nat.le_refl _, fun _ _ _ => rfl⟩
  · exact Kd_copy_run d dT sT ty elem hu hs HO HC hn h0 hKM hokp
/-- A list with so many marks behind it. -/
def roomy {α : Type} (l : List α) (m z : α) (j : Nat) : List α := l ++ List.replicate (j - l.length) m ++ List.replicate (l.length + 80 - j) z
theorem roomy_len {α : Type} (l : List α) (m z : α) (j : Nat) (h1 : l.length ≤ j) (h2 : j ≤ l.length + 80) : (roomy l m z j).length = l.length + 80 := by simp [roomy]; omega
theorem roomy_set {α : Type} (l : List α) (m z : α) (j : Nat) (h1 : l.length ≤ j) (h2 : j < l.length + 80) : (roomy l m z j).set j m = roomy l m z (j + 1) := by
  unfold roomy
  rw [List.set_append_right _ _ (by simp; omega)]
  rw [show l.length + 80 - j = (l.length + 80 - (j + 1)) + 1 by omega, List.replicate_succ]
  rw [show j - (l ++ List.replicate (j - l.length) m).length = 0 by simp; omega, List.set_cons_zero]
  rw [show j + 1 - l.length = (j - l.length) + 1 by omega, List.replicate_succ']
  simp
/-! ### broadsidebook.Roomy -/
def api_Attr_15.f (l : List S25) (a1_0 : ByteArray) (a1_1 : Bool) (a1_2 : Int) (a1_3 : ByteArray) : Option (List S25) :=
  if l.length ≤ 1000 then some (l ++ List.replicate 80 ⟨a1_0, ⟨a1_1, a1_2, a1_3⟩⟩) else none
set_option maxHeartbeats 8000000 in
set_option maxRecDepth 1000000 in
theorem api_Attr_15.walk (A : Option Addr) (c n : Nat) (l : List S25) (hln : l.length = n) (m0 : ByteArray) (m1 : Bool) (m2 : Int) (m3 : ByteArray) (w : World) (hr : Kd.C k25 w A n l) (hl : n ≤ 1000) :
    Calls Tryz.prog 15 #[.slice A n c, .agg #[.string m0, .bool m1, .int .i64 m2, .string m3]] w fun e w' => ∃ v0_ : Value, e = .returned v0_ ∧ Kd.R k25 25 w' w.heap.size (fun _ => True) v0_ (l ++ List.replicate 80 (⟨m0, ⟨m1, m2, m3⟩⟩ : S25)) ∧ Below w.heap.size w w' := by
  have hu25 := Tryz.underlying25
  have hu26 := Tryz.underlying26
  have HR := Aside0.mk hr
  have HL := Aside0.mk hln
  obtain ⟨mk, hmk⟩ : ∃ mk : S25, mk = ⟨m0, ⟨m1, m2, m3⟩⟩ := ⟨_, rfl⟩
  rw [← hmk]
  have HM := Aside0.mk hmk
  have HB0 := Aside0.mk (below_alloc (o := .cells #[.string m0, .bool m1, .int .i64 m2, .string m3] 25) (Below.refl w.heap.size w))
  have hw80 : IntKind.i64.wrap ((n : Int) + 80) = (n : Int) + 80 := by rw [IntKind.wrap_i64]; omega
  have hn1 : (n : Int) ≤ 1000 := by omega
  clear hr hln hmk
  go_enter Tryz.func15, Tryz.ntmps15
  go_wp2_with (first
    | ((with_reducible refine gate_dst (N := 10) rfl ?_); refine Kd.R_make k25 w.heap.size 25 rfl (N := 10) rfl 26 (.tmp 9) (.tmp 9) rfl ((n : Int) + 80) (by rfl) (by rfl) Tryz.underlying26 (.agg #[(.string ⟨#[]⟩), (.bool false), (.int .i64 0), (.string ⟨#[]⟩)]) 48 info25 rfl (by decide) (by decide) z25 (ok := fun _ => True) (okp := fun _ => False) (k25_mkM _ _ _ z25) (fun _ h => h.elim) trivial (by omega) (by omega) HB0.out (by simp) ?_
       intro v1 w1 hR1 hb1 hg1 ha1
       obtain ⟨g, cap, rfl, hgb, hcap, hcap2⟩ := R_some_ hR1 (by simp; omega)
       have hgw : w.heap.size + 1 ≤ g := by
         obtain ⟨b, h1, h2⟩ := ha1
         simp [Value.ownBlock] at h1 h2
         omega
       have hlen : (List.replicate ((n : Int) + 80).toNat z25).length = n + 80 := by simp; omega
       have hR2 := hR1
       rw [hlen] at hR2 hcap ⊢
       have kb : w1.heap[w.heap.size]? = some (.cells #[.string m0, .bool m1, .int .i64 m2, .string m3] 25 (0, 0)) := (hg1.block _ (by simp) (by simp)).trans (heap_alloc_new w _)
       obtain ⟨w2, hcp, hR3, hg3⟩ := Kd_copy_any (P := Tryz.prog) k25 26 26 3 25 Tryz.underlying26 (by rfl) hR2 (c := c) (Kd.C_below HR.out hb1) (by omega) k25_KM (fun _ h => h.elim)
       have kb2 := (hg3.block _ (Val.lt_blk kb) (by simp; omega)).trans kb
       have hb2 : Below w.heap.size w w2 := hb1.grown hg3 hb1.size (fun k hk => by injection hk with hk; omega)
       have x0 : w2.cell? ⟨w.heap.size, 0, none⟩ = some (.string m0) := (Val.cell_blk kb2 0).trans rfl
       have x1 : w2.cell? ⟨w.heap.size, 1, none⟩ = some (.bool m1) := (Val.cell_blk kb2 1).trans rfl
       have x2 : w2.cell? ⟨w.heap.size, 2, none⟩ = some (.int .i64 m2) := (Val.cell_blk kb2 2).trans rfl
       have x3 : w2.cell? ⟨w.heap.size, 3, none⟩ = some (.string m3) := (Val.cell_blk kb2 3).trans rfl
       have HRW := Aside0.mk hR3
       have HKB := Aside0.mk kb2
       have HB2 := Aside0.mk hb2
       have HGW := Aside0.mk hgw
       have HZ := Aside0.mk hlen
       clear hR1 hR2 hR3 kb kb2 hb2 hb1 hg1 ha1 hgb hgw hlen x0 x1 x2 x3)
    | (refine wpList_copy_run _ rfl (.tmp 11) (.tmp 12) 26 26 rfl _ _ rfl rfl hcp ?_))
  go_loopw [6] (fun v6 wr => ∃ j : Nat, v6 = .int .i64 j ∧ n ≤ j ∧ j ≤ n + 80 ∧ Aside0 (Kd.R k25 25 wr w.heap.size (fun _ => True) (.slice (some ⟨g, 0, none⟩) (n + 80) cap) (roomy l mk z25 j)) ∧ Aside0 (wr.heap[w.heap.size]? = some (.cells #[.string m0, .bool m1, .int .i64 m2, .string m3] 25 (0, 0))) ∧ Aside0 (Below w.heap.size w wr)) (fun v6 _ => n + 80 - (RowKit.intOf v6).toNat)
  case atStart =>
    refine ⟨n, rfl, Nat.le_refl _, by omega, ⟨?_⟩, HKB, HB2⟩
    have := HRW.out
    have hl2 := HL.out
    unfold roomy
    rw [hl2, Nat.sub_self, List.replicate_zero, List.append_nil, show n + 80 - n = 80 by omega]
    rw [show ((n : Int) + 80).toNat = n + 80 by omega, List.drop_replicate, show n + 80 - n = 80 by omega] at this
    exact this
  case round =>
    clear HRW HKB HB2
    obtain ⟨j, rfl, hj1, hj2, HRW, HKB, HB2⟩ := hrel
    by_cases hlt : j < n + 80
    · have x0 : wr.cell? ⟨w.heap.size, 0, none⟩ = some (.string m0) := (Val.cell_blk HKB.out 0).trans rfl
      have x1 : wr.cell? ⟨w.heap.size, 1, none⟩ = some (.bool m1) := (Val.cell_blk HKB.out 1).trans rfl
      have x2 : wr.cell? ⟨w.heap.size, 2, none⟩ = some (.int .i64 m2) := (Val.cell_blk HKB.out 2).trans rfl
      have x3 : wr.cell? ⟨w.heap.size, 3, none⟩ = some (.string m3) := (Val.cell_blk HKB.out 3).trans rfl
      have hj3 : (j : Int) ≤ 1100 := by omega
      obtain ⟨A9, c9, ev9, _, hC9⟩ := Kd.R_reads HRW.out
      obtain ⟨ad9, e9, y0, y1, y2, y3⟩ := at_T25 hC9 (j : Int) (by omega) (by rw [roomy_len l mk z25 j (by rw [HL.out]; exact hj1) (by rw [HL.out]; exact hj2), HL.out]; omega)
      have eA : A9 = some ⟨g, 0, none⟩ := by injection ev9 with h _ _; exact h.symm
      rw [eA] at e9
      injection e9 with e9
      subst e9
      rw [add_plain', Nat.zero_add] at y0 y1 y2 y3
      have Y0 := Aside0.mk y0
      have Y1 := Aside0.mk y1
      have Y2 := Aside0.mk y2
      have Y3 := Aside0.mk y3
      have HMK := HM.out
      clear y0 y1 y2 y3 ev9 hC9 eA HMK
      go_wp2_with ((with_reducible refine gate_store (p := 25) rfl ?_); go_loud (
        refine Kd.R_store k25 w.heap.size rfl rfl 25 (.tmp 25) (.tmp 24) rfl 25 (g := g) (j : Int) 0 (roomy l mk z25 j) mk (.agg #[.string m0, .bool m1, .int .i64 m2, .string m3]) [.string m0, .bool m1, .int .i64 m2, .string m3] [.string (rd_T25 (roomy l mk z25 j) j).f0, .bool (rd_T25 (roomy l mk z25 j) j).f1.f0, .int .i64 (rd_T25 (roomy l mk z25 j) j).f1.f1, .string (rd_T25 (roomy l mk z25 j) j).f1.f2] (fun _ => True) (fun _ => False) (by rfl) rfl rfl rfl (by kernel_rfl) (by simp [Value.oneCell']) HRW.out (by omega) (by omega) rfl ?hcc (by show 0 + 4 ≤ 4; omega) ?hM (fun _ h => h.elim) HB2.out ?_
        (case hcc =>
          intro q u hu
          match q, hu with
          | 0, hu => simp at hu; subst hu; exact Y0.out
          | 1, hu => simp at hu; subst hu; exact Y1.out
          | 2, hu => simp at hu; subst hu; exact Y2.out
          | 3, hu => simp at hu; subst hu; exact Y3.out)
        (case hM => rw [HM.out]; exact k25_mkM _ _ _ _)
        intro w5 hR5 hb5 hg5))
      go_roundw
      case rel =>
        refine ⟨j + 1, by go_num, by omega, by omega, ⟨?_⟩, ⟨(hg5.block _ (Val.lt_blk HKB.out) (by simp; have := HGW.out; omega)).trans HKB.out⟩, ⟨hb5⟩⟩
        rw [Int.toNat_natCast, roomy_set l mk z25 j (by rw [HL.out]; exact hj1) (by rw [HL.out]; exact hlt)] at hR5
        exact hR5
      case measure => simp [RowKit.intOf]; omega
    · obtain rfl : j = n + 80 := by omega
      go_wp2
      go_ret
      refine ⟨_, rfl, ?_, HB2.out⟩
      have := HRW.out
      unfold roomy at this
      rw [HL.out, Nat.sub_self, show n + 80 - n = 80 by omega] at this
      simpa using this
theorem api_Attr_15.calls (A0 : Option Addr) (c0 : Nat) (l0 : List S25) (a1_0 : ByteArray) (a1_1 : Bool) (a1_2 : Int) (a1_3 : ByteArray) (r : List S25) (w : World) (hr0 : Kd.C k25 w A0 l0.length l0) (hc0 : l0.length ≤ c0) (h : api_Attr_15.f l0 a1_0 a1_1 a1_2 a1_3 = some r) :
    Calls Tryz.prog 15 #[.slice A0 l0.length c0, .agg #[.string a1_0, .bool a1_1, .int .i64 a1_2, .string a1_3]] w fun e w' => ∃ v0_ : Value, e = .returned v0_ ∧ Kd.R k25 25 w' w.heap.size (fun _ => True) v0_ r ∧ Below w.heap.size w w' := by
  unfold api_Attr_15.f at h
  split at h
  · obtain rfl := Option.some.inj h
    exact api_Attr_15.walk A0 c0 _ l0 rfl a1_0 a1_1 a1_2 a1_3 w hr0 ‹_›
  · cases h
end Go.Proofs.YtgdieejhglhkcaaGreatDoor.MTup
