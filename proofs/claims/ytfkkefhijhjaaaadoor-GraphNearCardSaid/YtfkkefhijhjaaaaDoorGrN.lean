import Derived.Test.YtfkkefhijhjaaaaDoorGrM
import Derived.IntWalk
namespace Go.Proofs.YtfkkefhijhjaaaaDoor.Gr
open Go.RowKit Go.Proofs.YtfkkefhijhjaaaaDoorW.PrintWords Go.Proofs.YtfkkefhijhjaaaaDoorW.PrintLast Go.Proofs.YtfkkefhijhjaaaaDoorW.PrintMore
set_option linter.unusedVariables false
set_option linter.unusedSimpArgs false
noncomputable def grR : Array Oper := opsOf Tryd.f18 11
noncomputable def grRt : List Rg.Ent := [⟨0, 0, some 41, none, Op.move (Operand.tmp 5)⟩,
  ⟨0, 0, some 42, none, Op.fieldAddr 46 (Operand.tmp 1) 2⟩,
  ⟨2, 2, some 43, none, Op.load 44 (Operand.tmp 42)⟩,
  ⟨0, 0, some 44, none, Op.move (Operand.tmp 7)⟩,
  ⟨12, 12, some 45, none, Op.indexAddr 44 (Operand.tmp 43) (Operand.tmp 44)⟩,
  ⟨16, 16, some 46, none, Op.load 3 (Operand.tmp 45)⟩,
  ⟨0, 0, some 47, none, Op.fieldAddr 27 (Operand.tmp 3) 0⟩,
  ⟨64, 64, some 48, none, Op.load 3 (Operand.tmp 47)⟩,
  ⟨128, 128, some 49, none, Op.binOp BinOp.sub 3 (Operand.tmp 48) (Operand.const (Value.int IntKind.i64 1)) 3⟩,
  ⟨288, 288, some 50, none, Op.call { callee := Callee.value (Operand.func 20), args := #[Operand.tmp 46, Operand.const (Value.int IntKind.i64 0), Operand.tmp 49], argTypes := #[3, 3, 3] }⟩,
  ⟨0, 0, some 51, none, Op.fieldAddr 46 (Operand.tmp 1) 2⟩,
  ⟨1024, 1024, some 52, none, Op.load 44 (Operand.tmp 51)⟩,
  ⟨0, 0, some 53, none, Op.move (Operand.tmp 7)⟩,
  ⟨6144, 6144, some 54, none, Op.indexAddr 44 (Operand.tmp 52) (Operand.tmp 53)⟩,
  ⟨8192, 8192, some 55, none, Op.load 3 (Operand.tmp 54)⟩,
  ⟨16384, 16384, some 56, none, Op.binOp BinOp.quo 3 (Operand.tmp 55) (Operand.const (Value.int IntKind.i64 8)) 3⟩,
  ⟨0, 0, some 57, none, Op.fieldAddr 27 (Operand.tmp 3) 0⟩,
  ⟨65536, 65536, some 58, none, Op.load 3 (Operand.tmp 57)⟩,
  ⟨131072, 131072, some 59, none, Op.binOp BinOp.sub 3 (Operand.tmp 58) (Operand.const (Value.int IntKind.i64 1)) 3⟩,
  ⟨295424, 294912, some 60, none, Op.call { callee := Callee.value (Operand.func 20), args := #[Operand.tmp 56, Operand.const (Value.int IntKind.i64 0), Operand.tmp 59], argTypes := #[3, 3, 3] }⟩,
  ⟨524801, 524801, some 61, none, Op.call { callee := Callee.value (Operand.tmp 41), args := #[Operand.tmp 50, Operand.tmp 60], argTypes := #[3, 3] }⟩]
theorem grRT : Rg.Tabd .any grR 21 grRt := ⟨by kernel_rfl, by kernel_rfl, by kernel_rfl⟩
theorem grow_putTo {N : Int} {ls : List (Int × Int)} {k x y : Int} {m : Nat} (h : Grow N ls k m) (hx : 0 ≤ x ∧ x < N) (hy : 0 ≤ y ∧ y < N) : Grow N (putTo ls x y) k (m + 1) := by
  unfold putTo
  split
  · rename_i hc
    exact h.put hx hy hc.1 hc.2
  · exact h.more
theorem putTo_adj {N : Int} {ls : List (Int × Int)} {k x y : Int} {m : Nat} (h : Grow N ls k m) (hx : 0 ≤ x ∧ x < N) (hy : 0 ≤ y ∧ y < N) (hne : x ≠ y) : Adj N (putTo ls x y) x y := by
  unfold putTo
  by_cases hf : fresh ls x y
  · rw [if_pos ⟨hne, hf⟩]
    exact ⟨(x, y), by simp, okL_iff.mpr ⟨hx.1, hx.2, hy.1, hy.2, hne⟩, Or.inl rfl⟩
  · rw [if_neg (fun h => hf h.2)]
    unfold fresh at hf
    exact h.adj_old (by
      rcases Decidable.em ((x, y) ∈ ls) with h1 | h1
      · exact .inl h1
      · rcases Decidable.em ((y, x) ∈ ls) with h2 | h2
        · exact .inr h2
        · exact absurd ⟨h1, h2⟩ hf)
def GraphPost (w : World) (e : Ending) (w' : World) : Prop :=
  ∃ (N : Int) (ls : List (Int × Int)) (A : Option Addr) (c : Nat), e = .returned (.agg #[.int .i64 N, .slice A ls.length c]) ∧ Right N ls ∧ (1 ≤ N ∧ N ≤ 7) ∧ ls.length ≤ 15 ∧ Kd.C k24 w' A ls.length ls ∧ ls.length ≤ c ∧ Below w.heap.size w w'
/-- what holds in keep.Graph's loops. -/
def GI (Wb wr : World) (base bi bg mb : Nat) (N k : Int) (m : Nat) (ls : List (Int × Int)) (v2 : Value) : Prop :=
  GS wr base bi bg mb N ls v2 ∧ Below base Wb wr ∧ Grow N ls k m
theorem set_two {w : World} {g t : Nat} {x0 x1 a b : Value} (h : w.heap[g]? = some (.cells #[x0, x1] t (0, 0))) : ((w.setCell ⟨g, 0, none⟩ a).setCell ⟨g, 1, none⟩ b).heap[g]? = some (.cells #[a, b] t (0, 0)) := by
  have h1 : (w.setCell ⟨g, 0, none⟩ a).heap[g]? = some (.cells #[a, x1] t (0, 0)) := by simpa using blk_set h 0 a
  simpa using blk_set h1 1 b
theorem graph_end {w wr : World} {base bi mb : Nat} {N : Int} {ls : List (Int × Int)} {A : Option Addr} {c : Nat} {x0 x1 : Value} {m : Nat} (hG : GS wr base bi base mb N ls (.slice A ls.length c)) (hR : wr.heap[w.heap.size + 1]? = some (.cells #[x0, x1] 27 (0, 0))) (hGr : Grow N ls N m) (hN : 1 ≤ N ∧ N ≤ 7) (hB : Below w.heap.size w wr) (hm : m ≤ 15) :
    GraphPost w (.returned (.agg #[.int .i64 N, .slice A ls.length c])) ((wr.setCell ⟨w.heap.size + 1, 0, none⟩ (.int .i64 N)).setCell ⟨w.heap.size + 1, 1, none⟩ (.slice A ls.length c)) := by
  have h1 : (wr.setCell ⟨w.heap.size + 1, 0, none⟩ (.int .i64 N)).heap[w.heap.size + 1]? = some (.cells #[.int .i64 N, x1] 27 (0, 0)) := by simpa using blk_set hR 0 (.int .i64 N)
  have ht : ∀ q, q ∈ 24 :: k24.E → q ≠ 27 := fun q hq => by simp [k24_E] at hq; subst hq; decide
  have r2 := Kd.R_set (Kd.R_set hG.row hR ht 0 (.int .i64 N)) h1 ht 1 (.slice A ls.length c)
  obtain ⟨_, hc, hC⟩ := Kd.R_reads' r2
  exact ⟨N, ls, A, c, rfl, hGr.right hN.1 (by omega) (by omega), hN, Nat.le_trans hGr.len hm, hC, hc, (hB.setCell (by simp) _).setCell (by simp) _⟩
set_option maxHeartbeats 8000000 in
set_option maxRecDepth 100000 in
theorem graph_calls (B : Int) (AU AM : Option Addr) (cU cM : Nat) (us ms : List Int) (w : World) (hu : Kd.C (Kd.int .i64) w AU us.length us) (hm : Kd.C (Kd.int .i64) w AM ms.length ms) :
    Calls Tryd.prog 18 #[.agg #[.int .i64 B, .slice AU us.length cU, .slice AM ms.length cM]] w fun e w' => GraphPost w e w' := by
  have hmm := @run_makeMap Tryd.prog
  have FU := Aside0.mk hu
  have FM := Aside0.mk hm
  clear hu hm
  go_enter Tryd.func18, Tryd.ntmps18
  go_wp2_with (first | (go_at_call 20; refine (within_ex B 1 7 _ (by omega) (by omega) (by omega)).mono ?_; rintro e w' ⟨N, rfl, HN, rfl⟩))
  obtain ⟨Wb, hWb⟩ : ∃ Wb, (w.alloc (Obj.cells #[.int .i64 B, .slice AU us.length cU, .slice AM ms.length cM] 46)).alloc (Obj.cells #[.int .i64 0, .slice none 0 0] 27) = Wb := ⟨_, rfl⟩
  have hbw : Below w.heap.size w Wb := by rw [← hWb]; exact below_alloc (below_alloc (Below.refl _ _) _) _
  have hWs : Wb.heap.size = w.heap.size + 1 + 1 := by rw [← hWb]; simp
  have hk0 : Wb.heap[w.heap.size]? = some (.cells #[.int .i64 B, .slice AU us.length cU, .slice AM ms.length cM] 46 (0, 0)) := by
    rw [← hWb, Below.heap_alloc _ _ _ (by simp)]; exact heap_alloc_new w _
  have hk1 : Wb.heap[w.heap.size + 1]? = some (.cells #[.int .i64 0, .slice none 0 0] 27 (0, 0)) := by
    rw [← hWb]; simpa using heap_alloc_new (w.alloc (Obj.cells #[.int .i64 B, .slice AU us.length cU, .slice AM ms.length cM] 46)) (Obj.cells #[.int .i64 0, .slice none 0 0] 27)
  rw [hWb]
  obtain ⟨W0, hW0⟩ : ∃ W0, ((Wb.alloc (Obj.cells #[.int .i64 N, .slice none 0 0] 27)).alloc (Obj.map #[] 0)).alloc (Obj.cells #[.map (some (w.heap.size + 1 + 1 + 1))] 70) = W0 := ⟨_, rfl⟩
  rw [hW0]
  have hG0 : GS W0 (w.heap.size + 1 + 1) (w.heap.size + 1 + 1 + 1 + 1) (w.heap.size + 1 + 1) (w.heap.size + 1 + 1 + 1) N [] (.slice none 0 0) := by
    have e0 : inF [] = fun _ => none := by funext y; unfold inF; rw [if_neg (by simp)]
    have hM := Fm.M.new (S := S70) (Wb.alloc (Obj.cells #[.int .i64 N, .slice none 0 0] 27))
    have hM2 := hM.below (below_alloc (Below.refl _ _) (Obj.cells #[.map (some (w.heap.size + 1 + 1 + 1))] 70))
    have hs2 : (Wb.alloc (Obj.cells #[.int .i64 N, .slice none 0 0] 27)).heap.size = w.heap.size + 1 + 1 + 1 := by simp [hWs]
    have hi2 := heap_alloc_new ((Wb.alloc (Obj.cells #[.int .i64 N, .slice none 0 0] 27)).alloc (Obj.map #[] 0)) (Obj.cells #[.map (some (w.heap.size + 1 + 1 + 1))] 70)
    have hg2 := heap_alloc_new Wb (Obj.cells #[.int .i64 N, .slice none 0 0] 27)
    rw [hs2] at hM2
    rw [World.size_alloc, hs2] at hi2
    rw [hWs] at hg2
    rw [← hW0]
    refine ⟨hi2, ?_, by rw [e0]; exact hM2, Kd.R_nil _ _ _ _ _, by omega, Nat.le_refl _, by omega⟩
    rw [Below.heap_alloc _ _ _ (by simp [hWs]), Below.heap_alloc _ _ _ (by simp [hWs])]
    exact hg2
  have hB0 : Below (w.heap.size + 1 + 1) Wb W0 := by
    rw [← hW0, ← hWs]
    exact below_alloc (below_alloc (below_alloc (Below.refl _ _) _) _) _
  generalize hbi : w.heap.size + 1 + 1 + 1 + 1 = bi at hG0 ⊢
  generalize hmb : w.heap.size + 1 + 1 + 1 = mb at hG0 ⊢
  generalize hbase : w.heap.size + 1 + 1 = base at hG0 hB0 ⊢
  have LD : Aside0 (∀ w', Below base Wb w' → w'.cell? ⟨w.heap.size, 2, none⟩ = some (.slice AM ms.length cM)) := ⟨fun w' h => (h.cell (by show w.heap.size < base; omega)).trans ((blk_cell hk0 2).trans rfl)⟩
  have LU : Aside0 (∀ w', Below base Wb w' → w'.cell? ⟨w.heap.size, 1, none⟩ = some (.slice AU us.length cU)) := ⟨fun w' h => (h.cell (by show w.heap.size < base; omega)).trans ((blk_cell hk0 1).trans rfl)⟩
  have LR : Aside0 (∀ w', Below base Wb w' → w'.heap[w.heap.size + 1]? = some (.cells #[.int .i64 0, .slice none 0 0] 27 (0, 0))) := ⟨fun w' h => (h.block _ (by omega)).trans hk1⟩
  have LW : Aside0 (∀ w', Below base Wb w' → Below w.heap.size w w') := ⟨fun w' h => hbw.trans (h.mono (by omega))⟩
  have HH := Aside0.mk (And.intro hG0 (And.intro hB0 hbase))
  clear hG0 hB0 hk0 hk1 hbw hWb hWs hW0 hmm hbi hmb hbase
  go_loopg [6] 7 (fun q s6 wr => ∃ (b : Int) (ls : List (Int × Int)) (v2 : Value), s6 = .int .i64 b ∧ Aside0 (q + b.toNat = 8 ∧ 1 ≤ b ∧ b ≤ N) ∧ Aside0 (GI Wb wr base bi base mb N b b.toNat ls v2))
  case atStart => exact ⟨1, [], _, rfl, ⟨by omega⟩, ⟨HH.out.1, HH.out.2.1, ⟨by simp, List.Pairwise.nil, by simp, fun v h0 h1 => ⟨0, by show v = 0; omega⟩⟩⟩⟩
  case round =>
    obtain ⟨b, ls, v2, rfl, HQ, HI⟩ := hrel
    obtain ⟨hG, hB, hGr⟩ := HI.out
    have hgN : wr.cell? ⟨base, 0, none⟩ = some (.int .i64 N) := (blk_cell hG.hg 0).trans rfl
    by_cases hlt : b < N
    · have d1 : decide (b < N) = true := decide_eq_true hlt
      have hu1 := LU.out wr hB
      have hb0 : 0 ≤ b := by have := HQ.out; omega
      have hb1 : 1 ≤ b := by have := HQ.out; omega
      have hb7 : b ≤ 7 := by have := HQ.out; omega
      have HL := Aside0.mk (show ls.length ≤ 1000 by have := hGr.len; omega)
      have FU2 := Aside0.mk (Kd.C_below FU.out (LW.out wr hB))
      clear hG hB hGr
      go_wp2_with (first | (go_at_call 41; refine (pick_ex AU cU us b _ FU2.out hb0).mono ?_; rintro e w' ⟨r, rfl, rfl⟩) | (go_at_call 20; refine (within_ex r 0 (b - 1) _ (by omega) (by omega) (by omega)).mono ?_; rintro e w' ⟨y, rfl, HY, rfl⟩; have HY2 := Aside0.mk HY; clear HY) | (go_at_call 40; refine (put_calls b y Wb _ base bi base mb N ls v2 HI.out.1 HI.out.2.1 HL.out ⟨Fm.wf_int (by omega) (by omega), Fm.wf_int (by have := HY2.out; omega) (by have := HY2.out; omega)⟩).mono ?_; rintro e w' ⟨v3, rfl, hG3, hB3⟩; have HG3 := Aside0.mk hG3; have HB3 := Aside0.mk hB3; clear hG3 hB3))
      go_roundg (gk - 1)
      case measure => have := HQ.out; omega
      case rel =>
        have hx : 0 ≤ b ∧ b < N := ⟨hb0, hlt⟩
        have hy := HY2.out
        have hgr := grow_putTo HI.out.2.2 hx (y := y) ⟨by omega, by omega⟩
        have hadj := putTo_adj HI.out.2.2 hx (y := y) ⟨by omega, by omega⟩ (by omega)
        have hgr2 := hgr.one hadj (by omega)
        have e1 : (b + 1).toNat = b.toNat + 1 := by omega
        refine ⟨b + 1, _, v3, rfl, ⟨by have := HQ.out; omega⟩, ⟨HG3.out, HB3.out, ?_⟩⟩
        rw [e1]
        exact hgr2
    · have hbN : b = N := by have := HQ.out; omega
      subst hbN
      have d1 : decide (b < b) = false := by simp
      have HI2 : Aside0 (GI Wb wr base bi base mb b b 7 ls v2) := ⟨HI.out.1, HI.out.2.1, ⟨hGr.ok, hGr.once, by have := hGr.len; omega, hGr.conn⟩⟩
      clear hG hB hGr HI HQ hlt
      go_wp2_with fail
      obtain ⟨wo, rfl⟩ : ∃ wo : World, wo = wr := ⟨_, rfl⟩
      go_loopg [7] 8 (fun q s7 wr => ∃ (i : Nat) (ls : List (Int × Int)) (v2 : Value), s7 = .int .i64 (i : Int) ∧ Aside0 (q + i = 8 ∧ i ≤ 8) ∧ Aside0 (GI Wb wr base bi base mb b b (7 + i) ls v2))
      case atStart => exact ⟨0, ls, v2, rfl, ⟨by omega⟩, HI2⟩
      case round =>
        obtain ⟨N, rfl⟩ : ∃ N, N = b := ⟨_, rfl⟩
        clear HI2
        clear ls v2 hgN
        obtain ⟨i, ls, v2, rfl, HQ, HI⟩ := hrel
        obtain ⟨hG, hB, hGr⟩ := HI.out
        have hm2 := LD.out wr hB
        have hgN : wr.cell? ⟨base, 0, none⟩ = some (.int .i64 N) := (blk_cell hG.hg 0).trans rfl
        by_cases hgo : i < ms.length ∧ i < 8
        · obtain ⟨h1, h2⟩ := hgo
          · have d2 : decide ((i : Int) < 8) = true := decide_eq_true (by omega)
            obtain ⟨x, hx⟩ : ∃ x, ms[i]? = some x := ⟨_, List.getElem?_eq_getElem h1⟩
            obtain ⟨ad, ha, hcx0⟩ := at_int (Kd.C_below FM.out (LW.out wr hB)) hx
            have hcx : wr.drew.cell? (ad.add i) = some (.int .i64 x) := hcx0
            have CX : Aside0 (∀ w', Below base Wb w' → w'.cell? (ad.add i) = some (.int .i64 x)) := ⟨fun w' h => by
              obtain ⟨ad', ha', hc'⟩ := at_int (Kd.C_below FM.out (LW.out w' h)) hx
              rw [ha] at ha'
              cases ha'
              exact hc'⟩
            cases ha
            have HLS := Aside0.mk (show ls.length ≤ 1000 by have := hGr.len; omega)
            have HG := Aside0.mk hG
            have HB := Aside0.mk hB
            have hi6 : (i : Int) + 1 ≤ 1000000 := by omega
            clear hx hG hB hGr hcx0
            go_upto_region 11 with (fail)
            have wN : IntKind.i64.wrap (N - 1) = N - 1 := IntWalk.i64_in _ (by omega)
            have HR0 : Aside0 (0 ≤ i) := ⟨by omega⟩
            refine Rg.start grR (fun w' => w'.cell? ⟨w.heap.size, 2, none⟩ = some (.slice (some ad) ms.length cM) ∧ w'.cell? (ad.add i) = some (.int .i64 x) ∧ w'.cell? ⟨base, 0, none⟩ = some (.int .i64 N)) 63 21 4611683819404132352 [(1, .pointer (some ⟨w.heap.size, 0, none⟩)), (3, .pointer (some ⟨base, 0, none⟩)), (5, .func (.func 40) #[] #[.pointer (some ⟨bi, 0, none⟩), .pointer (some ⟨base, 0, none⟩)]), (7, .int .i64 (i : Int))] grRt (by kernel_rfl) (by kernel_rfl) grRT (by decide) (fun c a a' w e h => ⟨e ▸ h.1, h.2⟩) (by kernel_rfl) ⟨rfl, rfl, rfl, rfl, trivial⟩ (⟨hm2, hcx, hgN⟩) (fun Q' C HE hS => ?_)
            refine Rg.move C 0 41 1 (.func (.func 40) #[] #[.pointer (some ⟨bi, 0, none⟩), .pointer (some ⟨base, 0, none⟩)]) (by kernel_rfl) (by kernel_rfl) ?_
            refine Rg.gen C hS 1 42 3 (.pointer (some ⟨w.heap.size, 2, none⟩)) (Op.fieldAddr 46 (Operand.tmp 1) 2) [(Operand.tmp 1, .pointer (some ⟨w.heap.size, 0, none⟩))] (by kernel_rfl) (by kernel_rfl) (by kernel_rfl) (fun o ho ρ h w hS => by have h1 := h _ (.head _); simp only at h1; clear h; unfold execOp; simp only [ho, h1]; obtain ⟨c0, c1, c2⟩ := hS; go_simp) ?_
            refine Rg.gen C hS 2 43 7 (.slice (some ad) ms.length cM) (Op.load 44 (Operand.tmp 42)) [(Operand.tmp 42, .pointer (some ⟨w.heap.size, 2, none⟩))] (by kernel_rfl) (by kernel_rfl) (by kernel_rfl) (fun o ho ρ h w hS => by have h1 := h _ (.head _); simp only at h1; clear h; unfold execOp; simp only [ho, h1]; obtain ⟨c0, c1, c2⟩ := hS; go_simp) ?_
            refine Rg.move C 3 44 15 (.int .i64 (i : Int)) (by kernel_rfl) (by kernel_rfl) ?_
            refine Rg.gen C hS 4 45 31 (.pointer (some (ad.add i))) (Op.indexAddr 44 (Operand.tmp 43) (Operand.tmp 44)) [(Operand.tmp 43, .slice (some ad) ms.length cM), (Operand.tmp 44, .int .i64 (i : Int))] (by kernel_rfl) (by kernel_rfl) (by kernel_rfl) (fun o ho ρ h w hS => by have h1 := h _ (.head _); have h2 := h _ (.tail _ (.head _)); simp only at h1 h2; clear h; unfold execOp; simp only [ho, h1, h2]; obtain ⟨c0, c1, c2⟩ := hS; go_simp) ?_
            refine Rg.gen C hS 5 46 63 (.int .i64 x) (Op.load 3 (Operand.tmp 45)) [(Operand.tmp 45, .pointer (some (ad.add i)))] (by kernel_rfl) (by kernel_rfl) (by kernel_rfl) (fun o ho ρ h w hS => by have h1 := h _ (.head _); simp only at h1; clear h; unfold execOp; simp only [ho, h1]; obtain ⟨c0, c1, c2⟩ := hS; go_simp) ?_
            refine Rg.gen C hS 6 47 127 (.pointer (some ⟨base, 0, none⟩)) (Op.fieldAddr 27 (Operand.tmp 3) 0) [(Operand.tmp 3, .pointer (some ⟨base, 0, none⟩))] (by kernel_rfl) (by kernel_rfl) (by kernel_rfl) (fun o ho ρ h w hS => by have h1 := h _ (.head _); simp only at h1; clear h; unfold execOp; simp only [ho, h1]; obtain ⟨c0, c1, c2⟩ := hS; go_simp) ?_
            refine Rg.gen C hS 7 48 255 (.int .i64 N) (Op.load 3 (Operand.tmp 47)) [(Operand.tmp 47, .pointer (some ⟨base, 0, none⟩))] (by kernel_rfl) (by kernel_rfl) (by kernel_rfl) (fun o ho ρ h w hS => by have h1 := h _ (.head _); simp only at h1; clear h; unfold execOp; simp only [ho, h1]; obtain ⟨c0, c1, c2⟩ := hS; go_simp) ?_
            refine Rg.gen C hS 8 49 511 (.int .i64 (N - 1)) (Op.binOp BinOp.sub 3 (Operand.tmp 48) (Operand.const (Value.int IntKind.i64 1)) 3) [(Operand.tmp 48, .int .i64 N), (Operand.const (Value.int IntKind.i64 1), Value.int IntKind.i64 1)] (by kernel_rfl) (by kernel_rfl) (by kernel_rfl) (fun o ho ρ h w hS => by have h1 := h _ (.head _); have h2 := h _ (.tail _ (.head _)); simp only at h1 h2; clear h; unfold execOp; simp only [ho, h1, h2]; obtain ⟨c0, c1, c2⟩ := hS; go_simp) ?_
            refine Rg.gen C hS 10 51 1535 (.pointer (some ⟨w.heap.size, 2, none⟩)) (Op.fieldAddr 46 (Operand.tmp 1) 2) [(Operand.tmp 1, .pointer (some ⟨w.heap.size, 0, none⟩))] (by kernel_rfl) (by kernel_rfl) (by kernel_rfl) (fun o ho ρ h w hS => by have h1 := h _ (.head _); simp only at h1; clear h; unfold execOp; simp only [ho, h1]; obtain ⟨c0, c1, c2⟩ := hS; go_simp) ?_
            refine Rg.gen C hS 11 52 3583 (.slice (some ad) ms.length cM) (Op.load 44 (Operand.tmp 51)) [(Operand.tmp 51, .pointer (some ⟨w.heap.size, 2, none⟩))] (by kernel_rfl) (by kernel_rfl) (by kernel_rfl) (fun o ho ρ h w hS => by have h1 := h _ (.head _); simp only at h1; clear h; unfold execOp; simp only [ho, h1]; obtain ⟨c0, c1, c2⟩ := hS; go_simp) ?_
            refine Rg.move C 12 53 7679 (.int .i64 (i : Int)) (by kernel_rfl) (by kernel_rfl) ?_
            refine Rg.gen C hS 13 54 15871 (.pointer (some (ad.add i))) (Op.indexAddr 44 (Operand.tmp 52) (Operand.tmp 53)) [(Operand.tmp 52, .slice (some ad) ms.length cM), (Operand.tmp 53, .int .i64 (i : Int))] (by kernel_rfl) (by kernel_rfl) (by kernel_rfl) (fun o ho ρ h w hS => by have h1 := h _ (.head _); have h2 := h _ (.tail _ (.head _)); simp only at h1 h2; clear h; unfold execOp; simp only [ho, h1, h2]; obtain ⟨c0, c1, c2⟩ := hS; go_simp) ?_
            refine Rg.gen C hS 14 55 32255 (.int .i64 x) (Op.load 3 (Operand.tmp 54)) [(Operand.tmp 54, .pointer (some (ad.add i)))] (by kernel_rfl) (by kernel_rfl) (by kernel_rfl) (fun o ho ρ h w hS => by have h1 := h _ (.head _); simp only at h1; clear h; unfold execOp; simp only [ho, h1]; obtain ⟨c0, c1, c2⟩ := hS; go_simp) ?_
            refine Rg.gen C hS 15 56 65023 (.int .i64 (IntKind.i64.wrap (Int.tdiv x 8))) (Op.binOp BinOp.quo 3 (Operand.tmp 55) (Operand.const (Value.int IntKind.i64 8)) 3) [(Operand.tmp 55, .int .i64 x), (Operand.const (Value.int IntKind.i64 8), Value.int IntKind.i64 8)] (by kernel_rfl) (by kernel_rfl) (by kernel_rfl) (fun o ho ρ h w hS => by have h1 := h _ (.head _); have h2 := h _ (.tail _ (.head _)); simp only at h1 h2; clear h; unfold execOp; simp only [ho, h1, h2]; obtain ⟨c0, c1, c2⟩ := hS; go_simp) ?_
            refine Rg.gen C hS 16 57 130559 (.pointer (some ⟨base, 0, none⟩)) (Op.fieldAddr 27 (Operand.tmp 3) 0) [(Operand.tmp 3, .pointer (some ⟨base, 0, none⟩))] (by kernel_rfl) (by kernel_rfl) (by kernel_rfl) (fun o ho ρ h w hS => by have h1 := h _ (.head _); simp only at h1; clear h; unfold execOp; simp only [ho, h1]; obtain ⟨c0, c1, c2⟩ := hS; go_simp) ?_
            refine Rg.gen C hS 17 58 261631 (.int .i64 N) (Op.load 3 (Operand.tmp 57)) [(Operand.tmp 57, .pointer (some ⟨base, 0, none⟩))] (by kernel_rfl) (by kernel_rfl) (by kernel_rfl) (fun o ho ρ h w hS => by have h1 := h _ (.head _); simp only at h1; clear h; unfold execOp; simp only [ho, h1]; obtain ⟨c0, c1, c2⟩ := hS; go_simp) ?_
            refine Rg.gen C hS 18 59 523775 (.int .i64 (N - 1)) (Op.binOp BinOp.sub 3 (Operand.tmp 58) (Operand.const (Value.int IntKind.i64 1)) 3) [(Operand.tmp 58, .int .i64 N), (Operand.const (Value.int IntKind.i64 1), Value.int IntKind.i64 1)] (by kernel_rfl) (by kernel_rfl) (by kernel_rfl) (fun o ho ρ h w hS => by have h1 := h _ (.head _); have h2 := h _ (.tail _ (.head _)); simp only at h1 h2; clear h; unfold execOp; simp only [ho, h1, h2]; obtain ⟨c0, c1, c2⟩ := hS; go_simp) ?_
            refine Rg.call C 9 50 524287 #[.int .i64 x, Value.int IntKind.i64 0, .int .i64 (N - 1)] (by kernel_rfl) Tryd.func20 (by kernel_rfl) rfl (by kernel_rfl) ?_
            refine (within_ex x 0 (N - 1) _ (by omega) (by omega) (by omega)).mono ?_
            rintro e w' ⟨r1, rfl, HR1, rfl⟩
            refine ⟨_, rfl, hS, ?_⟩
            refine Rg.call C 19 60 1048575 #[.int .i64 (IntKind.i64.wrap (Int.tdiv x 8)), Value.int IntKind.i64 0, .int .i64 (N - 1)] (by kernel_rfl) Tryd.func20 (by kernel_rfl) rfl (by kernel_rfl) ?_
            refine (within_ex (IntKind.i64.wrap (Int.tdiv x 8)) 0 (N - 1) _ (by omega) (by omega) (by omega)).mono ?_
            rintro e w' ⟨r2, rfl, HR2, rfl⟩
            refine ⟨_, rfl, hS, ?_⟩
            refine Rg.callb C 20 61 2097151 #[.pointer (some ⟨bi, 0, none⟩), .pointer (some ⟨base, 0, none⟩)] #[.int .i64 r1, .int .i64 r2] (by kernel_rfl) Tryd.func40 (by kernel_rfl) rfl (by kernel_rfl) ?_
            refine (put_calls r1 r2 Wb wr.drew base bi base mb N ls v2 (HG.out.below (below_drew (Below.refl _ _))) (HB.out.drew) HLS.out ⟨Fm.wf_int (by omega) (by omega), Fm.wf_int (by omega) (by omega)⟩).mono ?_
            rintro e w' ⟨v3, rfl, hG3, hB3⟩
            refine ⟨_, rfl, ⟨LD.out w' hB3, CX.out w' hB3, (blk_cell hG3.hg 0).trans rfl⟩, ?_⟩
            have HG3 := Aside0.mk hG3
            have HB3 := Aside0.mk hB3
            clear hG3 hB3
            refine Rg.done_set C [(41, none), (42, none), (43, none), (44, none), (45, none), (46, none), (47, none), (48, none), (49, none), (50, none), (51, none), (52, none), (53, none), (54, none), (55, none), (56, none), (57, none), (58, none), (59, none), (60, none), (61, none)] (by kernel_rfl) (by kernel_rfl) (by kernel_rfl) (by kernel_rfl) (by kernel_rfl) (fun u => HE.out _ _ ?_)
            simp only [Rg.sets, List.map_cons, List.map_nil, Option.getD_some, Option.getD_none, List.foldl_cons, List.foldl_nil]
            simp only [List.set_cons_succ, List.set_cons_zero]
            go_wp2_with fail
            go_roundg (gk - 1)
            case measure => have := HQ.out; omega
            case rel =>
              refine ⟨i + 1, _, v3, by go_num, ⟨by have := HQ.out; omega⟩, ⟨HG3.out, HB3.out, ?_⟩⟩
              have hgr := grow_putTo HI.out.2.2 (x := r1) (y := r2) ⟨by omega, by omega⟩ ⟨by omega, by omega⟩
              rw [show 7 + (i + 1) = 7 + i + 1 by omega]
              exact hgr
        · have hd : (¬ i < ms.length) ∨ (i < ms.length ∧ ¬ i < 8) := by omega
          have HGr := Aside0.mk hGr
          obtain ⟨A4, c4, rfl⟩ := Kd.R_slice hG.row
          have hg1 : wr.cell? ⟨base, 1, none⟩ = some (.slice A4 ls.length c4) := (blk_cell hG.hg 1).trans rfl
          have hLR := LR.out wr hB
          have hfr0 := blk_frozen hLR 0
          have hfr1 := blk_frozen hLR 1
          have hcl0 : wr.cell? ⟨w.heap.size + 1, 0, none⟩ = some (.int .i64 0) := (blk_cell hLR 0).trans rfl
          have hcl1 : wr.cell? ⟨w.heap.size + 1, 1, none⟩ = some (.slice none 0 0) := (blk_cell hLR 1).trans rfl
          have HF := Aside0.mk (And.intro hG (And.intro hB hLR))
          have HN2 := Aside0.mk HN
          clear hG hB hGr hLR HN hgo
          rcases hd with h1 | ⟨h1, h2⟩
          · have d1 : decide ((i : Int) < (ms.length : Int)) = false := decide_eq_false (by omega)
            go_wp2_with fail
            refine bodyPost_ret (results_cell_row (ty := 27) rfl _ _ (w.heap.size + 1) 27 _ (0, 0) _ rfl (set_two HF.out.2.2) Tryd.underlying27 rfl (by kernel_rfl)) rfl ?_
            exact graph_end HF.out.1 HF.out.2.2 HGr.out HN2.out (LW.out wr HF.out.2.1) (by have := HQ.out; omega)
          · have d2 : decide ((i : Int) < 8) = false := decide_eq_false (by omega)
            go_wp2_with fail
            refine bodyPost_ret (results_cell_row (ty := 27) rfl _ _ (w.heap.size + 1) 27 _ (0, 0) _ rfl (set_two HF.out.2.2) Tryd.underlying27 rfl (by kernel_rfl)) rfl ?_
            exact graph_end HF.out.1 HF.out.2.2 HGr.out HN2.out (LW.out wr HF.out.2.1) (by have := HQ.out; omega)
end Go.Proofs.YtfkkefhijhjaaaaDoor.Gr
