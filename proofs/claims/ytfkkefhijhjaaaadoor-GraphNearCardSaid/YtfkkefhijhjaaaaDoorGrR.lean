import Derived.Test.YtfkkefhijhjaaaaDoorGrQ
import Derived.Test.YtfkkefhijhjaaaaDoorRg
import Derived.IntWalk
namespace Go.Proofs.YtfkkefhijhjaaaaDoor
open Go.RowKit Go.Proofs.YtfkkefhijhjaaaaDoorW.PrintLast Go.Proofs.YtfkkefhijhjaaaaDoorW.PrintWords Go.Proofs.YtfkkefhijhjaaaaDoorW.PrintMore
set_option linter.unusedVariables false
set_option linter.unusedSimpArgs false
namespace Rg
section
variable {P : Program} {ops : Array Oper} {Q : Exit → Act → World → Prop} {md : Region.Mode} {S : World → Prop} {n N : Nat} {D : Kp} {L : List (Nat × Value)} {w : World} {a : Act} {tb : List Ent}
/-- Two operations may come up, each walked by hand. -/
theorem duo {m k : Nat} (C : Ctx P md ops Q n N tb) (i ti mi : Nat) (opi : Op) (j tj mj : Nat) (opj : Op)
    (hi : opAt tb i = some opi) (hj : opAt tb j = some opj) (hc : chkTwo D.wm tb n N L m i ti mi j tj mj [] [] = true)
    (h1 : ∀ a, Fr n D L a → ∀ o : Oper, o.op = opi → o.dst = some ti → Region.wanted o (yielded ops a.tmps) = true → ∀ K : Act → World → Prop, Shut (∀ v w', S w' → At P md ops Q S n N D mi k ((ti, v) :: L) w' → K (a.put o.dst v) w') → if Region.wanted o (yielded ops a.tmps) = true then Oper.wp P o a w K Q else K (a.put o.dst undef) w)
    (h2 : ∀ a, Fr n D L a → ∀ o : Oper, o.op = opj → o.dst = some tj → Region.wanted o (yielded ops a.tmps) = true → ∀ K : Act → World → Prop, Shut (∀ v w', S w' → At P md ops Q S n N D mj k ((tj, v) :: L) w' → K (a.put o.dst v) w') → if Region.wanted o (yielded ops a.tmps) = true then Oper.wp P o a w K Q else K (a.put o.dst undef) w)
    (hndi : nin D.ds i = true := by kernel_rfl) (hndj : nin D.ds j = true := by kernel_rfl) : At P md ops Q S n N D m (k + 1) L w := by
  intro a hF
  simp only [chkTwo, Bool.and_eq_true] at hc
  obtain ⟨⟨⟨⟨⟨⟨⟨⟨⟨c1, c2⟩, c3⟩, c4⟩, c5⟩, c6⟩, c7⟩, c8⟩, c9⟩, c10⟩ := hc
  rw [Nat.blt_eq] at c2 c3 c4
  obtain ⟨oi, ei, hoi, hei, heoi, hdi, hti, hwi⟩ := dst_of C.tabd c7
  obtain ⟨oj, ej, hoj, hej, heoj, hdj, htj, hwj⟩ := dst_of C.tabd c8
  have hopi : oi.op = opi := by
    unfold opAt at hi
    rw [hei] at hi
    rw [← heoi]
    exact Option.some.inj hi
  have hopj : oj.op = opj := by
    unfold opAt at hj
    rw [hej] at hj
    rw [← heoj]
    exact Option.some.inj hj
  have hr : Region.ready md ops (bl N m) = [i, j] := by
    rw [ready_bl C.tabd c2]
    unfold pairL at c1
    split at c1
    · rename_i x y e
      rw [Bool.and_eq_true] at c1
      rw [e, Nat.eq_of_beq_eq_true c1.1, Nat.eq_of_beq_eq_true c1.2]
    · cases c1
  have hsi : (bl N m).setIfInBounds i true = bl N mi := by rw [bl_set c3, Nat.eq_of_beq_eq_true c5]
  have hsj : (bl N m).setIfInBounds j true = bl N mj := by rw [bl_set c4, Nat.eq_of_beq_eq_true c6]
  refine two_ (i := i) (j := j) (Ni := some ti) (Nj := some tj) (bl N mi) (bl N mj) hoi hoj hdi hdj (by simp only [Bool.and_eq_true, beq_iff_eq]; exact ⟨⟨hr, hsi⟩, hsj⟩) (nin_of hndi) (nin_of hndj) (fun K hK => ?_) (fun K hK => ?_)
  · rw [← hdi]
    refine h1 a hF oi hopi hdi (hF.wanted C.small hwi) K (fun v w' hS' hA => ?_)
    rw [hdi]
    exact hK.out _ _ hS' (fun _ => hA _ (hF.put hti.1 hti.2 v))
  · rw [← hdj]
    refine h2 a hF oj hopj hdj (hF.wanted C.small hwj) K (fun v w' hS' hA => ?_)
    rw [hdj]
    exact hK.out _ _ hS' (fun _ => hA _ (hF.put htj.1 htj.2 v))
end
end Rg
namespace Gr
/-- an empty row that was just built. -/
theorem R_empty24 (w : World) (base : Nat) (hb : base ≤ w.heap.size) : k24.R 24 (w.alloc (.cells #[] 24)) base (fun _ => True) (.slice (some ⟨w.heap.size, 0, none⟩) 0 0) [] :=
  R_lit24 w base hb [] (by simp) #[] (by apply Array.ext <;> simp [Go.Sort.flatK])
theorem C_one24 {w : World} {g : Nat} {x : Int × Int} (h : w.heap[g]? = some (.cells #[.int .i64 x.1, .int .i64 x.2] 24 (0, 0))) : Kd.C k24 w (some ⟨g, 0, none⟩) 1 [x] := by
  refine ⟨rfl, by decide, fun _ => ⟨_, rfl, fun j p hj => ?_⟩⟩
  match j, hj with
  | 0, hj =>
    obtain rfl : x = p := Option.some.inj hj
    refine ⟨[.int .i64 x.1, .int .i64 x.2], rfl, ⟨_, _, rfl, rfl, rfl⟩, fun i u hi => ?_⟩
    match i, hi with
    | 0, hi => exact (blk_cell h 0).trans hi
    | 1, hi => exact (blk_cell h 1).trans hi
    | i + 2, hi => simp at hi
  | j + 1, hj => simp at hj
theorem cuts24 {A : Option Addr} {n c i : Nat} (ls : List (Int × Int)) (hn : ls.length = n) (hi : i ≤ n) (hc : n ≤ c) :
    ∃ Ad cd, (∀ W : World, (Instr.slice 25 (.slice A n c) (some (.int .i64 (i : Int))) none none).run Tryd.prog W = .ok (.slice Ad (n - i) cd) W) ∧
      (∀ W : World, (Instr.slice 25 (.slice A n c) none (some (.int .i64 (i : Int))) none).run Tryd.prog W = .ok (.slice A i c) W) ∧
      ∀ w', Kd.C k24 w' A n ls → Kd.C k24 w' Ad (n - i) (ls.drop i) ∧ Kd.C k24 w' A i (ls.take i) := by
  subst hn
  obtain ⟨i0, hi0, hz0, hz1, hz2⟩ := info_parts info24
  have hf := cut_from (P := Tryd.prog) 25 24 .i64 Tryd.underlying25 hi0 2 hz1 A ls.length c (i : Int) (by omega) (by omega)
  have hto := cut_to (P := Tryd.prog) 25 24 .i64 Tryd.underlying25 hi0 A ls.length c (i : Int) (by omega) (by omega) hc
  rw [Int.toNat_natCast] at hf hto
  refine ⟨_, _, hf, hto, fun w' hr => ⟨?_, ?_⟩⟩
  · have hd4 := Kd.C_drop (c := c) hr hi hc
    rw [show k24.sz = 2 from rfl, List.length_drop] at hd4
    exact hd4
  · have ht4 := Kd.C_take hr hi
    rw [List.length_take, Nat.min_eq_left hi] at ht4
    exact ht4
/-- append of a row to a row of one's own. -/
theorem app24 {ops : Array Oper} {o : Oper} {a : Act} {Q : Exit → Act → World → Prop} {Kc : Act → World → Prop} {w0 W : World} (base : Nat) (hw : Region.wanted o (yielded ops a.tmps) = true) (s x : Operand)
    (ho : o.op = .call { callee := .builtin .append, args := #[s, x], argTypes := #[25, 25] }) (v : Value) (xs ys : List (Int × Int)) (A : Option Addr) (m c : Nat) (hs : a.eval s = v) (hx : a.eval x = .slice A m c)
    (HO : k24.R 24 W base (fun _ => True) v xs) (HR : Kd.C k24 W A m ys) (HB : Below base w0 W) (hbase : base ≤ W.heap.size) (hl : xs.length + m ≤ 1000000)
    (h : ∀ v1 w1, k24.R 24 w1 base (fun _ => True) v1 (xs ++ ys) → Below base w0 w1 → W.grownBy w1 v.ownBlock → Kc (a.put o.dst v1) w1) :
    if Region.wanted o (yielded ops a.tmps) = true then Oper.wp Tryd.prog o a W Kc Q else Kc (a.put o.dst undef) W :=
  Kd.R_append_rows_step k24 (Rr := k24.K W) base hw s x 25 24 (.agg #[.int .i64 0, .int .i64 0]) 16 ho Tryd.underlying25 info24 rfl (by decide) (by omega) v xs ys A m c (fun _ => True) (fun _ => False) hs hx HO HR (fun _ _ h => k24_open h ▸ k24_M) (fun _ hk => hk.elim) (fun _ _ => trivial) HB hbase (by omega) (fun v1 w1 h1 h2 h3 _ => h v1 w1 h1 h2 h3)
noncomputable def putR : Array Oper := opsOf Tryd.f33 2
noncomputable def putRt : List Rg.Ent := [⟨0, 0, some 7, none, Op.buildSlice 25 0 #[]⟩,
  ⟨0, 0, some 8, none, Op.fieldAddr 27 (Operand.tmp 1) 1⟩,
  ⟨2, 2, some 9, none, Op.load 25 (Operand.tmp 8)⟩,
  ⟨0, 0, some 10, none, Op.load 3 (Operand.tmp 2)⟩,
  ⟨12, 12, some 11, none, Op.slice 25 (Operand.tmp 9) none (some (Operand.tmp 10)) none⟩,
  ⟨17, 17, some 12, none, Op.call { callee := Callee.builtin Builtin.append, args := #[Operand.tmp 7, Operand.tmp 11], argTypes := #[25, 25] }⟩,
  ⟨0, 0, some 13, none, Op.load 24 (Operand.tmp 3)⟩,
  ⟨64, 64, some 14, none, Op.buildSlice 25 1 #[(0, Operand.tmp 13)]⟩,
  ⟨160, 160, some 15, none, Op.call { callee := Callee.builtin Builtin.append, args := #[Operand.tmp 12, Operand.tmp 14], argTypes := #[25, 25] }⟩,
  ⟨0, 0, some 16, none, Op.fieldAddr 27 (Operand.tmp 1) 1⟩,
  ⟨512, 512, some 17, none, Op.load 25 (Operand.tmp 16)⟩,
  ⟨0, 0, some 18, none, Op.load 3 (Operand.tmp 2)⟩,
  ⟨3072, 3072, some 19, none, Op.slice 25 (Operand.tmp 17) (some (Operand.tmp 18)) none none⟩,
  ⟨4352, 4352, some 20, none, Op.call { callee := Callee.builtin Builtin.append, args := #[Operand.tmp 15, Operand.tmp 19], argTypes := #[25, 25] }⟩,
  ⟨16383, 0, some 21, none, Op.fieldAddr 27 (Operand.tmp 5) 1⟩,
  ⟨32767, 24576, none, none, Op.store 25 (Operand.tmp 21) (Operand.tmp 20)⟩]
theorem putRT : Rg.Tabd .any putR 16 putRt := ⟨by kernel_rfl, by kernel_rfl, by kernel_rfl⟩
set_option maxHeartbeats 8000000 in
set_option maxRecDepth 100000 in
theorem put33_calls (N xa xb : Int) (A : Option Addr) (n c i g ib : Nat) (ls : List (Int × Int)) (w : World) (hr : Kd.C k24 w A n ls) (hn : ls.length = n) (hc : n ≤ c) (hi : i ≤ n) (hl : n ≤ 1000)
    (h0 : w.cell? ⟨g, 0, none⟩ = some (.int .i64 N)) (h1 : w.cell? ⟨g, 1, none⟩ = some (.slice A n c)) (hib : w.cell? ⟨ib, 0, none⟩ = some (.int .i64 (i : Int))) (hgl : g < w.heap.size) (hil : ib < w.heap.size) :
    Calls Tryd.prog 33 #[.agg #[.int .i64 xa, .int .i64 xb], .pointer (some ⟨g, 0, none⟩), .pointer (some ⟨ib, 0, none⟩)] w fun e w' => ∃ A3 c3, e = .returned (.agg #[.int .i64 N, .slice A3 (n + 1) c3]) ∧ k24.R 24 w' w.heap.size (fun _ => True) (.slice A3 (n + 1) c3) (ls.take i ++ [(xa, xb)] ++ ls.drop i) ∧ n + 1 ≤ c3 ∧ Below w.heap.size w w' := by
  have hbw0 : Below w.heap.size w (((w.alloc (Obj.cells #[.int .i64 xa, .int .i64 xb] 24)).alloc (Obj.cells #[.int .i64 0, .slice none 0 0] 27)).alloc (Obj.cells #[.int .i64 N, .slice A n c] 27)) := below_alloc (below_alloc (below_alloc (Below.refl _ _) _) _) _
  have hk0 : (((w.alloc (Obj.cells #[.int .i64 xa, .int .i64 xb] 24)).alloc (Obj.cells #[.int .i64 0, .slice none 0 0] 27)).alloc (Obj.cells #[.int .i64 N, .slice A n c] 27)).heap[w.heap.size]? = some (.cells #[.int .i64 xa, .int .i64 xb] 24 (0, 0)) := by
    rw [Below.heap_alloc _ _ _ (by simp <;> omega), Below.heap_alloc _ _ _ (by simp)]; exact heap_alloc_new w _
  have hk1 : (((w.alloc (Obj.cells #[.int .i64 xa, .int .i64 xb] 24)).alloc (Obj.cells #[.int .i64 0, .slice none 0 0] 27)).alloc (Obj.cells #[.int .i64 N, .slice A n c] 27)).heap[w.heap.size + 1]? = some (.cells #[.int .i64 0, .slice none 0 0] 27 (0, 0)) := by
    rw [Below.heap_alloc _ _ _ (by simp)]; simpa using heap_alloc_new (w.alloc (Obj.cells #[.int .i64 xa, .int .i64 xb] 24)) (Obj.cells #[.int .i64 0, .slice none 0 0] 27)
  have hk2 : (((w.alloc (Obj.cells #[.int .i64 xa, .int .i64 xb] 24)).alloc (Obj.cells #[.int .i64 0, .slice none 0 0] 27)).alloc (Obj.cells #[.int .i64 N, .slice A n c] 27)).heap[w.heap.size + 1 + 1]? = some (.cells #[.int .i64 N, .slice A n c] 27 (0, 0)) := by
    simpa using heap_alloc_new ((w.alloc (Obj.cells #[.int .i64 xa, .int .i64 xb] 24)).alloc (Obj.cells #[.int .i64 0, .slice none 0 0] 27)) (Obj.cells #[.int .i64 N, .slice A n c] 27)
  go_enter Tryd.func33, Tryd.ntmps33
  go_upto_region 2 with (fail)
  generalize ((w.alloc (Obj.cells #[.int .i64 xa, .int .i64 xb] 24)).alloc (Obj.cells #[.int .i64 0, .slice none 0 0] 27)).alloc (Obj.cells #[.int .i64 N, .slice A n c] 27) = Wb at hbw0 hk0 hk1 hk2 ⊢
  have hsz : w.heap.size + 1 + 1 < Wb.heap.size := blk_lt hk2
  obtain ⟨Ad, cd, hf, hto, hcc⟩ := cuts24 (A := A) (c := c) ls hn hi hc
  obtain ⟨hd4, ht4⟩ := hcc Wb (Kd.C_below hr hbw0)
  have hlen : (ls.take i ++ [(xa, xb)] ++ ls.drop i).length = n + 1 := by simp; omega
  have hnd : n - i ≤ 1000 := by omega
  generalize n - i = nd at hd4 hf hnd
  have HSZ := Aside0.mk hsz
  have HDr := Aside0.mk hd4
  have HT := Aside0.mk ht4
  have FF := Aside0.mk hf
  have FT := Aside0.mk hto
  have HLN := Aside0.mk hlen
  have LD : Aside0 (∀ w', Below Wb.heap.size Wb w' → w'.cell? ⟨g, 0, none⟩ = some (.int .i64 N) ∧ w'.cell? ⟨g, 1, none⟩ = some (.slice A n c) ∧ w'.cell? ⟨ib, 0, none⟩ = some (.int .i64 (i : Int)) ∧ w'.cell? ⟨w.heap.size, 0, none⟩ = some (.int .i64 xa) ∧ w'.cell? ⟨w.heap.size, 1, none⟩ = some (.int .i64 xb)) :=
    ⟨fun w' h => by
      have hbw := hbw0.trans (h.mono (by omega))
      exact ⟨(hbw.cell hgl).trans h0, (hbw.cell hgl).trans h1, (hbw.cell hil).trans hib, (h.cell (blk_lt hk0)).trans ((blk_cell hk0 0).trans rfl), (h.cell (blk_lt hk0)).trans ((blk_cell hk0 1).trans rfl)⟩⟩
  have LB : Aside0 (∀ w', Below Wb.heap.size Wb w' → w'.heap[w.heap.size + 1]? = some (.cells #[.int .i64 0, .slice none 0 0] 27 (0, 0)) ∧ w'.heap[w.heap.size + 1 + 1]? = some (.cells #[.int .i64 N, .slice A n c] 27 (0, 0)) ∧ Below w.heap.size w w') :=
    ⟨fun w' h => ⟨(h.block _ (by omega)).trans hk1, (h.block _ (by omega)).trans hk2, hbw0.trans (h.mono (by omega))⟩⟩
  clear hd4 ht4 hf hto hcc hk0 hk1 hk2 h0 h1 hib hr hbw0 hlen
  refine Rg.startz [15] putR (fun w' => Below Wb.heap.size Wb w') 23 16 4194176 [(1, .pointer (some ⟨g, 0, none⟩)), (2, .pointer (some ⟨ib, 0, none⟩)), (3, .pointer (some ⟨w.heap.size, 0, none⟩)), (4, .pointer (some ⟨(w.heap.size + 1), 0, none⟩)), (5, .pointer (some ⟨(w.heap.size + 1 + 1), 0, none⟩))] putRt (by kernel_rfl) (by kernel_rfl) putRT (by decide) (fun c a a' w e h => ⟨e ▸ h.1, h.2⟩) (by kernel_rfl) ⟨rfl, rfl, rfl, rfl, rfl, trivial⟩ (below_drew (Below.refl _ _)) (fun Q' C HE hS => ?_)
  have hb0 : Below Wb.heap.size Wb Wb.drew := below_drew (Below.refl _ _)
  generalize Wb.drew = V0 at hb0 hS ⊢
  refine Rg.gen C hS 1 8 2 (.pointer (some ⟨g, 1, none⟩)) (Op.fieldAddr 27 (Operand.tmp 1) 1) [(Operand.tmp 1, .pointer (some ⟨g, 0, none⟩))] (by kernel_rfl) (by kernel_rfl) (by kernel_rfl) (fun o ho ρ h w hS => by have h1 := h _ (.head _); simp only at h1; clear h; unfold execOp; simp only [ho, h1]; go_simp) ?_
  refine Rg.gen C hS 2 9 6 (.slice A n c) (Op.load 25 (Operand.tmp 8)) [(Operand.tmp 8, .pointer (some ⟨g, 1, none⟩))] (by kernel_rfl) (by kernel_rfl) (by kernel_rfl) (fun o ho ρ h w hS => by have h1 := h _ (.head _); simp only at h1; clear h; unfold execOp; simp only [ho, h1]; obtain ⟨c0, c1, c2, c3, c4⟩ := LD.out _ hS; go_simp) ?_
  refine Rg.gen C hS 3 10 14 (.int .i64 (i : Int)) (Op.load 3 (Operand.tmp 2)) [(Operand.tmp 2, .pointer (some ⟨ib, 0, none⟩))] (by kernel_rfl) (by kernel_rfl) (by kernel_rfl) (fun o ho ρ h w hS => by have h1 := h _ (.head _); simp only at h1; clear h; unfold execOp; simp only [ho, h1]; obtain ⟨c0, c1, c2, c3, c4⟩ := LD.out _ hS; go_simp) ?_
  refine Rg.gen C hS 4 11 30 (.slice A i c) (Op.slice 25 (Operand.tmp 9) none (some (Operand.tmp 10)) none) [(Operand.tmp 9, .slice A n c), (Operand.tmp 10, .int .i64 (i : Int))] (by kernel_rfl) (by kernel_rfl) (by kernel_rfl) (fun o ho ρ h w hS => by have h1 := h _ (.head _); have h2 := h _ (.tail _ (.head _)); simp only at h1 h2; clear h; unfold execOp; simp only [ho, h1, h2]; simp [Instr.sliceAt, h2, FT.out w]) ?_
  refine Rg.gen C hS 6 13 94 (.agg #[.int .i64 xa, .int .i64 xb]) (Op.load 24 (Operand.tmp 3)) [(Operand.tmp 3, .pointer (some ⟨w.heap.size, 0, none⟩))] (by kernel_rfl) (by kernel_rfl) (by kernel_rfl) (fun o ho ρ h w hS => by have h1 := h _ (.head _); simp only at h1; clear h; unfold execOp; simp only [ho, h1]; obtain ⟨c0, c1, c2, c3, c4⟩ := LD.out _ hS; go_simp) ?_
  refine Rg.gen C hS 9 16 606 (.pointer (some ⟨g, 1, none⟩)) (Op.fieldAddr 27 (Operand.tmp 1) 1) [(Operand.tmp 1, .pointer (some ⟨g, 0, none⟩))] (by kernel_rfl) (by kernel_rfl) (by kernel_rfl) (fun o ho ρ h w hS => by have h1 := h _ (.head _); simp only at h1; clear h; unfold execOp; simp only [ho, h1]; go_simp) ?_
  refine Rg.gen C hS 10 17 1630 (.slice A n c) (Op.load 25 (Operand.tmp 16)) [(Operand.tmp 16, .pointer (some ⟨g, 1, none⟩))] (by kernel_rfl) (by kernel_rfl) (by kernel_rfl) (fun o ho ρ h w hS => by have h1 := h _ (.head _); simp only at h1; clear h; unfold execOp; simp only [ho, h1]; obtain ⟨c0, c1, c2, c3, c4⟩ := LD.out _ hS; go_simp) ?_
  refine Rg.gen C hS 11 18 3678 (.int .i64 (i : Int)) (Op.load 3 (Operand.tmp 2)) [(Operand.tmp 2, .pointer (some ⟨ib, 0, none⟩))] (by kernel_rfl) (by kernel_rfl) (by kernel_rfl) (fun o ho ρ h w hS => by have h1 := h _ (.head _); simp only at h1; clear h; unfold execOp; simp only [ho, h1]; obtain ⟨c0, c1, c2, c3, c4⟩ := LD.out _ hS; go_simp) ?_
  refine Rg.gen C hS 12 19 7774 (.slice Ad nd cd) (Op.slice 25 (Operand.tmp 17) (some (Operand.tmp 18)) none none) [(Operand.tmp 17, .slice A n c), (Operand.tmp 18, .int .i64 (i : Int))] (by kernel_rfl) (by kernel_rfl) (by kernel_rfl) (fun o ho ρ h w hS => by have h1 := h _ (.head _); have h2 := h _ (.tail _ (.head _)); simp only at h1 h2; clear h; unfold execOp; simp only [ho, h1, h2]; simp [Instr.sliceAt, h2, FF.out w]) ?_
  refine Rg.join (σ := Value × Nat) 7935 4 (fun s => [(3, .pointer (some ⟨w.heap.size, 0, none⟩)), (4, .pointer (some ⟨(w.heap.size + 1), 0, none⟩)), (5, .pointer (some ⟨(w.heap.size + 1 + 1), 0, none⟩)), (19, .slice Ad nd cd), (12, s.1), (14, .slice (some ⟨s.2, 0, none⟩) 1 1)]) (fun s W => Below Wb.heap.size Wb W ∧ k24.R 24 W Wb.heap.size (fun _ => True) s.1 (ls.take i) ∧ W.heap[s.2]? = some (.cells #[.int .i64 xa, .int .i64 xb] 24 (0, 0))) ?_ ?_
  · rintro ⟨vA, gb⟩ W2 ⟨hbW, hRa, hXb⟩
    simp only at hRa hXb ⊢
    clear hS
    have hS := hbW
    refine Rg.raw C 8 15 8191 (Op.call { callee := Callee.builtin Builtin.append, args := #[Operand.tmp 12, Operand.tmp 14], argTypes := #[25, 25] }) (by kernel_rfl) (by kernel_rfl) (fun a hF o ho hod hwt K hK => ?_)
    refine app24 (w0 := Wb) Wb.heap.size hwt (.tmp 12) (.tmp 14) ho (vA) (ls.take i) [(xa, xb)] (some ⟨gb, 0, none⟩) (1) (1) ((hF.ev (by kernel_rfl)).trans (by kernel_rfl)) ((hF.ev (by kernel_rfl)).trans (by kernel_rfl)) hRa (C_one24 (x := (xa, xb)) hXb) hbW hbW.size (by simp; omega) (fun vv3 ww3 hR3 hb3 hg3 => ?_)
    refine hK.out _ _ hb3 ?_
    clear hK K hF hwt ho hod o a hS
    have hS := hb3
    refine Rg.raw C 13 20 16383 (Op.call { callee := Callee.builtin Builtin.append, args := #[Operand.tmp 15, Operand.tmp 19], argTypes := #[25, 25] }) (by kernel_rfl) (by kernel_rfl) (fun a hF o ho hod hwt K hK => ?_)
    refine app24 (w0 := Wb) Wb.heap.size hwt (.tmp 15) (.tmp 19) ho (vv3) (ls.take i ++ [(xa, xb)]) (ls.drop i) Ad (nd) (cd) ((hF.ev (by kernel_rfl)).trans (by kernel_rfl)) ((hF.ev (by kernel_rfl)).trans (by kernel_rfl)) hR3 (Kd.C_below HDr.out hb3) hb3 hb3.size (by simp; omega) (fun vv4 ww4 hR4 hb4 hg4 => ?_)
    refine hK.out _ _ hb4 ?_
    clear hK K hF hwt ho hod o a hS
    have hS := hb4
    refine Rg.gen C hS 14 21 32767 (.pointer (some ⟨(w.heap.size + 1 + 1), 1, none⟩)) (Op.fieldAddr 27 (Operand.tmp 5) 1) [(Operand.tmp 5, .pointer (some ⟨(w.heap.size + 1 + 1), 0, none⟩))] (by kernel_rfl) (by kernel_rfl) (by kernel_rfl) (fun o ho ρ h w hS => by have h1 := h _ (.head _); simp only at h1; clear h; unfold execOp; simp only [ho, h1]; go_simp) ?_
    obtain ⟨A5, c5, rfl, hc5, hC5⟩ := Kd.R_reads hR4
    rw [HLN.out] at hc5 hC5 hR4 ⊢
    have hbk := (LB.out _ hb4).2.1
    have hfr := blk_frozen hbk 1
    have hcl : ww4.cell? ⟨w.heap.size + 1 + 1, 1, none⟩ = some (.slice A n c) := (blk_cell hbk 1).trans rfl
    refine Rg.last C 15 65535 (Op.store 25 (Operand.tmp 21) (Operand.tmp 20)) (by kernel_rfl) (by kernel_rfl) (fun a hF o ho hd K hK => ?_)
    have h1 := (hF.ev (x := .tmp 21) (by kernel_rfl)).trans (show _ = .pointer (some ⟨w.heap.size + 1 + 1, 1, none⟩) by kernel_rfl)
    have h2 := (hF.ev (x := .tmp 20) (by kernel_rfl)).trans (show _ = .slice A5 (n + 1) c5 by kernel_rfl)
    have hrun : (execOp a.eval o).run Tryd.prog ww4 = .ok .skip (ww4.setCell ⟨w.heap.size + 1 + 1, 1, none⟩ (.slice A5 (n + 1) c5)) := by unfold execOp; simp only [ho]; rw [h1, h2]; go_simp
    unfold Oper.wp; rw [hrun]
    unfold Oper.upon; rw [hd]
    refine hK _ ?_
    clear hrun h1 h2 hF ho hd hK K o a
    refine Rg.done_set C [(7, none), (8, none), (9, none), (10, none), (11, none), (12, none), (13, none), (14, none), (15, none), (16, none), (17, none), (18, none), (19, none), (20, none), (21, none)] (by kernel_rfl) (by kernel_rfl) (by kernel_rfl) (by kernel_rfl) (by kernel_rfl) (fun u => HE.out _ _ ?_)
    simp only [Rg.sets, List.map_cons, List.map_nil, Option.getD_some, Option.getD_none, List.foldl_cons, List.foldl_nil]
    simp only [List.set_cons_succ, List.set_cons_zero]
    have hnb : some (w.heap.size + 1 + 1) ≠ (Value.slice A5 (n + 1) c5).ownBlock := Kd.R_ne hR4 hbk (by decide)
    have hR6 := Kd.R_set hR4 hbk (fun q hq => by simp [k24_E] at hq; subst hq; decide) 1 (.slice A5 (n + 1) c5)
    have hbk6 : (ww4.setCell ⟨w.heap.size + 1 + 1, 1, none⟩ (.slice A5 (n + 1) c5)).heap[w.heap.size + 1 + 1]? = some (.cells #[.int .i64 N, .slice A5 (n + 1) c5] 27 (0, 0)) := by simpa using blk_set hbk 1 (.slice A5 (n + 1) c5)
    have hbr6 := (Below.heap_setCell ww4 ⟨w.heap.size + 1 + 1, 1, none⟩ (.slice A5 (n + 1) c5) (w.heap.size + 1) (by simp)).trans (LB.out _ hb4).1
    have hB6 : Below w.heap.size w (ww4.setCell ⟨w.heap.size + 1 + 1, 1, none⟩ (.slice A5 (n + 1) c5)) := ((LB.out _ hb4).2.2).setCell (by simp <;> omega) _
    generalize ww4.setCell ⟨w.heap.size + 1 + 1, 1, none⟩ (.slice A5 (n + 1) c5) = W6 at hR6 hbk6 hbr6 hB6 ⊢
    have hfr0 := blk_frozen hbr6 0
    have hfr1 := blk_frozen hbr6 1
    have hcl0 : W6.cell? ⟨w.heap.size + 1, 0, none⟩ = some (.int .i64 0) := (blk_cell hbr6 0).trans rfl
    have hcl1 : W6.cell? ⟨w.heap.size + 1, 1, none⟩ = some (.slice none 0 0) := (blk_cell hbr6 1).trans rfl
    have hg0 : W6.cell? ⟨w.heap.size + 1 + 1, 0, none⟩ = some (.int .i64 N) := (blk_cell hbk6 0).trans rfl
    have hg1 : W6.cell? ⟨w.heap.size + 1 + 1, 1, none⟩ = some (.slice A5 (n + 1) c5) := (blk_cell hbk6 1).trans rfl
    have HF := Aside0.mk (And.intro hR6 (And.intro hbr6 hB6))
    clear hR6 hbk6 hbr6 hB6 hnb hbk hfr hcl hb4 hb3 hR3 hR4 hRa hXb hbW hC5 hS hb0 hg3 hg4 HE C
    go_wp2_with fail
    refine bodyPost_ret (results_cell_row (ty := 27) rfl _ _ (w.heap.size + 1) 27 _ (0, 0) _ rfl (set_two HF.out.2.1) Tryd.underlying27 rfl (by kernel_rfl)) rfl ?_
    obtain ⟨k1, k2, k3⟩ := HF.out
    have ht : ∀ q, q ∈ 24 :: k24.E → q ≠ 27 := fun q hq => by simp [k24_E] at hq; subst hq; decide
    have hq1 : (W6.setCell ⟨w.heap.size + 1, 0, none⟩ (.int .i64 N)).heap[w.heap.size + 1]? = some (.cells #[.int .i64 N, .slice none 0 0] 27 (0, 0)) := by simpa using blk_set k2 0 (.int .i64 N)
    have r2 := Kd.R_set (Kd.R_set k1 k2 ht 0 (.int .i64 N)) hq1 ht 1 (.slice A5 (n + 1) c5)
    exact ⟨A5, c5, rfl, Kd.R_lower r2 (Nat.le_of_lt (by have := HSZ.out; omega)), hc5, (k3.setCell (by simp) _).setCell (by simp) _⟩
  · intro hJ
    refine Rg.duo C 0 7 7775 (Op.buildSlice 25 0 #[]) 7 14 7902 (Op.buildSlice 25 1 #[(0, Operand.tmp 13)]) (by kernel_rfl) (by kernel_rfl) (by kernel_rfl) (fun a hF o ho hod hwt K hK => ?_) (fun a hF o ho hod hwt K hK => ?_)
    · skip
      refine value_ hwt rfl (v := .slice (some ⟨V0.heap.size, 0, none⟩) 0 0) (w1 := V0.alloc (.cells #[] 24)) (by unfold execOp; simp only [ho]; go_simp) (hK.out _ _ (below_alloc hb0 _) ?_)
      clear hK K hF hwt ho hod o a
      have hb11 : Below Wb.heap.size Wb (V0.alloc (.cells #[] 24)) := below_alloc hb0 _
      have hR11 := R_empty24 V0 Wb.heap.size hb0.size
      have hs11 : (V0.alloc (.cells #[] 24)).heap.size = V0.heap.size + 1 := by simp
      generalize V0.alloc (.cells #[] 24) = W11 at hb11 hR11 hs11 ⊢
      refine Rg.duo C 5 12 7807 (Op.call { callee := Callee.builtin Builtin.append, args := #[Operand.tmp 7, Operand.tmp 11], argTypes := #[25, 25] }) 7 14 7903 (Op.buildSlice 25 1 #[(0, Operand.tmp 13)]) (by kernel_rfl) (by kernel_rfl) (by kernel_rfl) (fun a hF o ho hod hwt K hK => ?_) (fun a hF o ho hod hwt K hK => ?_)
      · skip
        refine app24 (w0 := Wb) Wb.heap.size hwt (Operand.tmp 7) (Operand.tmp 11) ho (.slice (some ⟨V0.heap.size, 0, none⟩) 0 0) [] (ls.take i) A (i) (c) ((hF.ev (by kernel_rfl)).trans (by kernel_rfl)) ((hF.ev (by kernel_rfl)).trans (by kernel_rfl)) hR11 (Kd.C_below HT.out hb11) hb11 hb11.size (by simp; omega) (fun vv12 ww12 hR12 hb12 hg12 => ?_)
        rw [List.nil_append] at hR12
        refine hK.out _ _ hb12 ?_
        clear hK K hF hwt ho hod o a
        refine Rg.raw C 7 14 7935 (Op.buildSlice 25 1 #[(0, Operand.tmp 13)]) (by kernel_rfl) (by kernel_rfl) (fun a hF o ho hod hwt K hK => ?_)
        have hev := (hF.ev (x := Operand.tmp 13) (by kernel_rfl)).trans (show _ = .agg #[.int .i64 xa, .int .i64 xb] by kernel_rfl)
        refine value_ hwt rfl (v := .slice (some ⟨ww12.heap.size, 0, none⟩) 1 1) (w1 := ww12.alloc (.cells #[.int .i64 xa, .int .i64 xb] 24)) (by unfold execOp; simp only [ho]; simp [hev]; go_simp) (hK.out _ _ (below_alloc hb12 _) ?_)
        clear hK K hF hwt ho hod o a hev
        have hb13 : Below Wb.heap.size Wb (ww12.alloc (.cells #[.int .i64 xa, .int .i64 xb] 24)) := below_alloc hb12 _
        have hx13 := heap_alloc_new ww12 (.cells #[.int .i64 xa, .int .i64 xb] 24)
        have hR13 := Kd.R_below hR12 (below_alloc (Below.refl _ _) (.cells #[.int .i64 xa, .int .i64 xb] 24))
        generalize ww12.alloc (.cells #[.int .i64 xa, .int .i64 xb] 24) = W13 at hb13 hx13 hR13 ⊢
        exact (hJ (vv12, _) _ ⟨hb13, hR13, hx13⟩).sub (by kernel_rfl) (by kernel_rfl)
      · skip
        have hev := (hF.ev (x := Operand.tmp 13) (by kernel_rfl)).trans (show _ = .agg #[.int .i64 xa, .int .i64 xb] by kernel_rfl)
        refine value_ hwt rfl (v := .slice (some ⟨W11.heap.size, 0, none⟩) 1 1) (w1 := W11.alloc (.cells #[.int .i64 xa, .int .i64 xb] 24)) (by unfold execOp; simp only [ho]; simp [hev]; go_simp) (hK.out _ _ (below_alloc hb11 _) ?_)
        clear hK K hF hwt ho hod o a hev
        have hb12 : Below Wb.heap.size Wb (W11.alloc (.cells #[.int .i64 xa, .int .i64 xb] 24)) := below_alloc hb11 _
        have hx12 := heap_alloc_new W11 (.cells #[.int .i64 xa, .int .i64 xb] 24)
        have hR12 := Kd.R_below hR11 (below_alloc (Below.refl _ _) (.cells #[.int .i64 xa, .int .i64 xb] 24))
        generalize W11.alloc (.cells #[.int .i64 xa, .int .i64 xb] 24) = W12 at hb12 hx12 hR12 ⊢
        refine Rg.raw C 5 12 7935 (Op.call { callee := Callee.builtin Builtin.append, args := #[Operand.tmp 7, Operand.tmp 11], argTypes := #[25, 25] }) (by kernel_rfl) (by kernel_rfl) (fun a hF o ho hod hwt K hK => ?_)
        refine app24 (w0 := Wb) Wb.heap.size hwt (Operand.tmp 7) (Operand.tmp 11) ho (.slice (some ⟨V0.heap.size, 0, none⟩) 0 0) [] (ls.take i) A (i) (c) ((hF.ev (by kernel_rfl)).trans (by kernel_rfl)) ((hF.ev (by kernel_rfl)).trans (by kernel_rfl)) hR12 (Kd.C_below HT.out hb12) hb12 hb12.size (by simp; omega) (fun vv13 ww13 hR13 hb13 hg13 => ?_)
        rw [List.nil_append] at hR13
        refine hK.out _ _ hb13 ?_
        clear hK K hF hwt ho hod o a
        exact (hJ (vv13, _) _ ⟨hb13, hR13, ((hg13.block _ (blk_lt hx12) (by rw [hs11]; simp [Value.ownBlock])).trans hx12)⟩).sub (by kernel_rfl) (by kernel_rfl)
    · skip
      have hev := (hF.ev (x := Operand.tmp 13) (by kernel_rfl)).trans (show _ = .agg #[.int .i64 xa, .int .i64 xb] by kernel_rfl)
      refine value_ hwt rfl (v := .slice (some ⟨V0.heap.size, 0, none⟩) 1 1) (w1 := V0.alloc (.cells #[.int .i64 xa, .int .i64 xb] 24)) (by unfold execOp; simp only [ho]; simp [hev]; go_simp) (hK.out _ _ (below_alloc hb0 _) ?_)
      clear hK K hF hwt ho hod o a hev
      have hb11 : Below Wb.heap.size Wb (V0.alloc (.cells #[.int .i64 xa, .int .i64 xb] 24)) := below_alloc hb0 _
      have hx11 := heap_alloc_new V0 (.cells #[.int .i64 xa, .int .i64 xb] 24)
      generalize V0.alloc (.cells #[.int .i64 xa, .int .i64 xb] 24) = W11 at hb11 hx11 ⊢
      have hlt11 := blk_lt hx11
      refine Rg.raw C 0 7 7903 (Op.buildSlice 25 0 #[]) (by kernel_rfl) (by kernel_rfl) (fun a hF o ho hod hwt K hK => ?_)
      refine value_ hwt rfl (v := .slice (some ⟨W11.heap.size, 0, none⟩) 0 0) (w1 := W11.alloc (.cells #[] 24)) (by unfold execOp; simp only [ho]; go_simp) (hK.out _ _ (below_alloc hb11 _) ?_)
      clear hK K hF hwt ho hod o a
      have hb12 : Below Wb.heap.size Wb (W11.alloc (.cells #[] 24)) := below_alloc hb11 _
      have hR12 := R_empty24 W11 Wb.heap.size hb11.size
      have hs12 : (W11.alloc (.cells #[] 24)).heap.size = W11.heap.size + 1 := by simp
      have hx12 := (Below.heap_alloc W11 (.cells #[] 24) _ (blk_lt hx11)).trans hx11
      generalize W11.alloc (.cells #[] 24) = W12 at hb12 hR12 hs12 hx12 ⊢
      refine Rg.raw C 5 12 7935 (Op.call { callee := Callee.builtin Builtin.append, args := #[Operand.tmp 7, Operand.tmp 11], argTypes := #[25, 25] }) (by kernel_rfl) (by kernel_rfl) (fun a hF o ho hod hwt K hK => ?_)
      refine app24 (w0 := Wb) Wb.heap.size hwt (Operand.tmp 7) (Operand.tmp 11) ho (.slice (some ⟨W11.heap.size, 0, none⟩) 0 0) [] (ls.take i) A (i) (c) ((hF.ev (by kernel_rfl)).trans (by kernel_rfl)) ((hF.ev (by kernel_rfl)).trans (by kernel_rfl)) hR12 (Kd.C_below HT.out hb12) hb12 hb12.size (by simp; omega) (fun vv13 ww13 hR13 hb13 hg13 => ?_)
      rw [List.nil_append] at hR13
      refine hK.out _ _ hb13 ?_
      clear hK K hF hwt ho hod o a
      exact (hJ (vv13, _) _ ⟨hb13, hR13, ((hg13.block _ (blk_lt hx12) (by intro e; simp [Value.ownBlock] at e; omega)).trans hx12)⟩).sub (by kernel_rfl) (by kernel_rfl)
end Gr
end Go.Proofs.YtfkkefhijhjaaaaDoor
