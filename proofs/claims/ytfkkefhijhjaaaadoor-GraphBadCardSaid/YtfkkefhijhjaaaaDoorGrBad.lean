import Derived.Test.YtfkkefhijhjaaaaDoorGrS
namespace Go.Proofs.YtfkkefhijhjaaaaDoor.Gr
open Go.RowKit Go.Proofs.YtfkkefhijhjaaaaDoorW.PrintWords Go.Proofs.YtfkkefhijhjaaaaDoorW.PrintLast Go.Proofs.YtfkkefhijhjaaaaDoorW.PrintMore
set_option linter.unusedVariables false
set_option linter.unusedSimpArgs false
noncomputable def badA : Array Oper := opsOf Tryd.f11 6
noncomputable def badAt : List Rg.Ent := [⟨0, 0, some 32, none, Op.move (Operand.tmp 13)⟩,
  ⟨0, 0, some 33, none, Op.move (Operand.tmp 12)⟩,
  ⟨0, 0, some 34, none, Op.move (Operand.tmp 12)⟩,
  ⟨6, 6, some 35, none, Op.build 24 #[(0, Operand.tmp 33), (1, Operand.tmp 34)]⟩,
  ⟨9, 9, some 36, none, Op.call { callee := Callee.value (Operand.tmp 32), args := #[Operand.tmp 35], argTypes := #[24] }⟩,
  ⟨0, 0, some 37, none, Op.load 3 (Operand.tmp 11)⟩,
  ⟨0, 0, some 14, none, Op.alloc 27⟩,
  ⟨95, 80, none, none, Op.store 27 (Operand.tmp 14) (Operand.tmp 36)⟩,
  ⟨255, 32, some 15, none, Op.assign (Operand.tmp 37)⟩]
theorem badAT : Rg.Tabd .any badA 9 badAt := ⟨by kernel_rfl, by kernel_rfl, by kernel_rfl⟩
noncomputable def badB : Array Oper := opsOf Tryd.f11 14
noncomputable def badBt : List Rg.Ent := [⟨0, 0, some 55, none, Op.fieldAddr 27 (Operand.tmp 9) 1⟩,
  ⟨1, 1, some 56, none, Op.load 25 (Operand.tmp 55)⟩,
  ⟨0, 0, some 57, none, Op.move (Operand.tmp 3)⟩,
  ⟨0, 0, some 58, none, Op.move (Operand.tmp 10)⟩,
  ⟨8, 8, some 59, none, Op.binOp BinOp.sub 3 (Operand.tmp 58) (Operand.const (Value.int IntKind.i64 1)) 3⟩,
  ⟨20, 20, some 60, none, Op.call { callee := Callee.value (Operand.func 20), args := #[Operand.tmp 57, Operand.const (Value.int IntKind.i64 0), Operand.tmp 59], argTypes := #[3, 3, 3] }⟩,
  ⟨34, 34, some 61, none, Op.indexAddr 25 (Operand.tmp 56) (Operand.tmp 60)⟩,
  ⟨64, 64, some 62, none, Op.load 24 (Operand.tmp 61)⟩,
  ⟨0, 0, some 16, none, Op.alloc 24⟩,
  ⟨511, 384, none, none, Op.store 24 (Operand.tmp 16) (Operand.tmp 62)⟩]
theorem badBT : Rg.Tabd .any badB 10 badBt := ⟨by kernel_rfl, by kernel_rfl, by kernel_rfl⟩
noncomputable def badC : Array Oper := opsOf Tryd.f11 15
noncomputable def badCt : List Rg.Ent := [⟨0, 0, some 63, none, Op.buildSlice 25 0 #[]⟩,
  ⟨0, 0, some 64, none, Op.fieldAddr 27 (Operand.tmp 9) 1⟩,
  ⟨2, 2, some 65, none, Op.load 25 (Operand.tmp 64)⟩,
  ⟨5, 5, some 66, none, Op.call { callee := Callee.builtin Builtin.append, args := #[Operand.tmp 63, Operand.tmp 65], argTypes := #[25, 25] }⟩,
  ⟨0, 0, some 67, none, Op.indexAddr 24 (Operand.tmp 16) (Operand.const (Value.int IntKind.i64 1))⟩,
  ⟨16, 16, some 68, none, Op.load 3 (Operand.tmp 67)⟩,
  ⟨0, 0, some 69, none, Op.indexAddr 24 (Operand.tmp 16) (Operand.const (Value.int IntKind.i64 0))⟩,
  ⟨64, 64, some 70, none, Op.load 3 (Operand.tmp 69)⟩,
  ⟨160, 160, some 71, none, Op.build 24 #[(0, Operand.tmp 68), (1, Operand.tmp 70)]⟩,
  ⟨256, 256, some 72, none, Op.buildSlice 25 1 #[(0, Operand.tmp 71)]⟩,
  ⟨520, 520, some 73, none, Op.call { callee := Callee.builtin Builtin.append, args := #[Operand.tmp 66, Operand.tmp 72], argTypes := #[25, 25] }⟩,
  ⟨2047, 0, some 74, none, Op.fieldAddr 27 (Operand.tmp 14) 1⟩,
  ⟨4095, 3072, none, none, Op.store 25 (Operand.tmp 74) (Operand.tmp 73)⟩]
theorem badCT : Rg.Tabd .any badC 13 badCt := ⟨by kernel_rfl, by kernel_rfl, by kernel_rfl⟩
theorem okL_self (N v : Int) : okL N (v, v) = false := by
  cases h : okL N (v, v)
  · rfl
  · exact absurd rfl (okL_iff.mp h).2.2.2.2
theorem okL_out (N v : Int) : okL N (v, N) = false := by
  cases h : okL N (v, N)
  · rfl
  · have := (okL_iff.mp h).2.2.2.1; simp at this
theorem cell_lt {w : World} {g k : Nat} {x : Value} (h : w.cell? ⟨g, k, none⟩ = some x) : g < w.heap.size := by
  rcases Nat.lt_or_ge g w.heap.size with h1 | h1
  · exact h1
  · simp [World.cell?, h1] at h
set_option maxHeartbeats 8000000 in
set_option maxRecDepth 100000 in
theorem Bad.walk (B : Int) (AU AM : Option Addr) (cU cM : Nat) (us ms : List Int) (what at_ a_ : Int) (w : World) (HTYP : Aside0 (Er.Typ w)) (hu : Kd.C (Kd.int .i64) w AU us.length us) (hm : Kd.C (Kd.int .i64) w AM ms.length ms) :
    Calls Tryd.prog 11 #[.agg #[.int .i64 B, .slice AU us.length cU, .slice AM ms.length cM], .int .i64 what, .int .i64 at_, .int .i64 a_] w fun e w' => e = .returned (.bool true) ∧ Below w.heap.size w w' := by
  have FU := Aside0.mk hu
  have FM := Aside0.mk hm
  clear hu hm
  go_enter Tryd.func11, Tryd.ntmps11
  go_upto_region 2 with ((go_at_call 18; (with_reducible refine (graph_calls B AU AM cU cM us ms _ (Kd.C_alloc FU.out _) (Kd.C_alloc FM.out _)).mono ?_); rintro e w2 ⟨N, ls, A, c2, rfl, hR, hN, hl, hC, hc, hB⟩; obtain ⟨n, hn⟩ : ∃ n, ls.length = n := ⟨_, rfl⟩; rw [hn] at hl hC hc ⊢; have HR := Aside0.mk hR; have HN := Aside0.mk hN; have HCC := Aside0.mk (And.intro hC (And.intro hc (And.intro hl hn))); have HB := Aside0.mk hB; clear hR hN hl hC hc hB hn))
  have hL : (w2.alloc (Obj.cells #[.int .i64 N, .slice A n c2] 27)).heap[w2.heap.size]? = some (.cells #[.int .i64 N, .slice A n c2] 27 (0, 0)) := heap_alloc_new w2 _
  have hBW : Below w.heap.size w (w2.alloc (Obj.cells #[.int .i64 N, .slice A n c2] 27)) := below_alloc (below_step (below_alloc (Below.refl _ _) _) HB.out) _
  have hCW : Kd.C k24 (w2.alloc (Obj.cells #[.int .i64 N, .slice A n c2] 27)) A n ls := Kd.C_alloc HCC.out.1 _
  generalize w2.alloc (Obj.cells #[.int .i64 N, .slice A n c2] 27) = W at hL hBW hCW ⊢
  generalize w2.heap.size = g at hL ⊢
  have HBW := Aside0.mk hBW
  have LD : Aside0 (∀ w', Below W.heap.size W w' → w'.cell? ⟨g, 0, none⟩ = some (.int .i64 N) ∧ w'.cell? ⟨g, 1, none⟩ = some (.slice A n c2) ∧ Kd.C k24 w' A n ls ∧ Er.Typ w') :=
    ⟨fun w' h => ⟨(h.cell (blk_lt hL)).trans ((blk_cell hL 0).trans rfl), (h.cell (blk_lt hL)).trans ((blk_cell hL 1).trans rfl), Kd.C_below hCW h, (HTYP.out.below hBW).below h⟩⟩
  have HC : Aside0 (n ≤ c2 ∧ n ≤ 1000000 ∧ N ≤ 1000000) := ⟨by have := HCC.out; have := HN.out; omega⟩
  have HL : Aside0 (n ≤ 1000 ∧ 0 ≤ N ∧ N ≤ 100) := ⟨by have := HCC.out; have := HN.out; omega⟩
  have HLN : Aside0 (ls.length = n ∧ n ≤ 15) := ⟨HCC.out.2.2.2, HCC.out.2.2.1⟩
  clear HCC HB hL hBW hCW
  have hN1 : 1 ≤ N := HN.out.1
  have hN7 : N ≤ 7 := HN.out.2
  have hg0 := (LD.out W (Below.refl _ _)).1
  have hg1 := (LD.out W (Below.refl _ _)).2.1
  have eN : IntKind.i64.wrap (N - 1) = N - 1 := IntWalk.i64_in _ (by omega)
  have hn3 := HL.out.1
  go_upto_region 4 with ((go_at_call 20; (with_reducible refine (within_val at_ 0 (n : Int) _ (by omega) (by omega) (by omega)).mono ?_); rintro e w' ⟨rfl, rfl⟩))
  have hir := wi_rng at_ (lo := 0) (hi := (n : Int)) (by omega)
  obtain ⟨i, hi⟩ : ∃ i : Nat, wi at_ 0 (n : Int) = (i : Int) := ⟨(wi at_ 0 (n : Int)).toNat, (Int.toNat_of_nonneg hir.1).symm⟩
  rw [hi] at hir ⊢
  have hin : i ≤ n := by omega
  have hx := heap_alloc_new W (.cells #[.int .i64 (i : Int)] 3)
  have hbA : Below W.heap.size W (W.alloc (.cells #[.int .i64 (i : Int)] 3)) := below_alloc (Below.refl _ _) _
  generalize W.alloc (Obj.cells #[.int .i64 (i : Int)] 3) = Wb at hx hbA ⊢
  generalize W.heap.size = ib at hx ⊢
  have LDb : Aside0 (∀ w', Below Wb.heap.size Wb w' → w'.cell? ⟨g, 0, none⟩ = some (.int .i64 N) ∧ w'.cell? ⟨g, 1, none⟩ = some (.slice A n c2) ∧ Kd.C k24 w' A n ls ∧ Er.Typ w' ∧ w'.cell? ⟨ib, 0, none⟩ = some (.int .i64 (i : Int))) := ⟨fun w' h => by
    obtain ⟨a1, a2, a3, a4⟩ := LD.out w' (below_step hbA h)
    exact ⟨a1, a2, a3, a4, (h.cell (blk_lt hx)).trans ((blk_cell hx 0).trans rfl)⟩⟩
  have HBb : Aside0 (Below w.heap.size w Wb) := ⟨below_step HBW.out hbA⟩
  have PUT : Aside0 (∀ W', Below Wb.heap.size Wb W' → ∀ xa xb : Int, Calls Tryd.prog 33 #[.agg #[.int .i64 xa, .int .i64 xb], .pointer (some ⟨g, 0, none⟩), .pointer (some ⟨ib, 0, none⟩)] W' fun e w' => ∃ A3 c3, e = .returned (.agg #[.int .i64 N, .slice A3 (n + 1) c3]) ∧ k24.R 24 w' W'.heap.size (fun _ => True) (.slice A3 (n + 1) c3) (ls.take i ++ [(xa, xb)] ++ ls.drop i) ∧ n + 1 ≤ c3 ∧ Below W'.heap.size W' w') := ⟨fun W' h xa xb => by
    obtain ⟨a1, a2, a3, a4, a5⟩ := LDb.out W' h
    exact put33_calls N xa xb A n c2 i g ib ls W' a3 HLN.out.1 HC.out.1 hin HL.out.1 a1 a2 a5 (cell_lt a1) (cell_lt a5)⟩
  have HLN1 : Aside0 (∀ x : Int × Int, (ls.take i ++ [x] ++ ls.drop i).length = n + 1) := ⟨fun x => by have := HLN.out.1; simp; omega⟩
  have HI : Aside0 (i ≤ ls.length) := ⟨by have := HLN.out.1; omega⟩
  clear hg0 hg1 hx hbA hi hir hin HBW LD
  have hg0 := (LDb.out Wb (Below.refl _ _)).1
  have hg1 := (LDb.out Wb (Below.refl _ _)).2.1
  go_upto_region 6 with ((go_at_call 20; (with_reducible refine (within_val a_ 0 (N - 1) _ (by omega) (by omega) (by omega)).mono ?_); rintro e w' ⟨rfl, rfl⟩))
  generalize wi a_ 0 (N - 1) = v
  clear hg0 hg1
  refine Rg.start badA (fun w' => Below Wb.heap.size Wb w') 107 9 270582988800 [(9, .pointer (some ⟨g, 0, none⟩)), (11, .pointer (some ⟨ib, 0, none⟩)), (12, .int .i64 v), (13, .func (.func 33) #[] #[.pointer (some ⟨g, 0, none⟩), .pointer (some ⟨ib, 0, none⟩)])] badAt (by kernel_rfl) (by kernel_rfl) badAT (by decide) (fun c a a' w e h => ⟨e ▸ h.1, h.2⟩) (by kernel_rfl) ⟨rfl, rfl, rfl, rfl, trivial⟩ (below_drew (Below.refl _ _)) (fun Q' C HE hS => ?_)
  have hb0 : Below Wb.heap.size Wb Wb.drew := below_drew (Below.refl _ _)
  generalize Wb.drew = V0 at hb0 hS ⊢
  refine Rg.move C 0 32 1 (.func (.func 33) #[] #[.pointer (some ⟨g, 0, none⟩), .pointer (some ⟨ib, 0, none⟩)]) (by kernel_rfl) (by kernel_rfl) ?_
  refine Rg.move C 1 33 3 (.int .i64 v) (by kernel_rfl) (by kernel_rfl) ?_
  refine Rg.move C 2 34 7 (.int .i64 v) (by kernel_rfl) (by kernel_rfl) ?_
  refine Rg.gen C hS 3 35 15 (.agg #[.int .i64 v, .int .i64 v]) (Op.build 24 #[(0, Operand.tmp 33), (1, Operand.tmp 34)]) [(Operand.tmp 33, .int .i64 v), (Operand.tmp 34, .int .i64 v)] (by kernel_rfl) (by kernel_rfl) (by kernel_rfl) (fun o ho ρ h w hS => by have h1 := h _ (.head _); have h2 := h _ (.tail _ (.head _)); simp only at h1 h2; clear h; unfold execOp; simp only [ho, h1, h2]; go_simp) ?_
  refine Rg.gen C hS 5 37 47 (.int .i64 (i : Int)) (Op.load 3 (Operand.tmp 11)) [(Operand.tmp 11, .pointer (some ⟨ib, 0, none⟩))] (by kernel_rfl) (by kernel_rfl) (by kernel_rfl) (fun o ho ρ h w hS => by have h1 := h _ (.head _); simp only at h1; clear h; unfold execOp; simp only [ho, h1]; obtain ⟨k0, k1, k2, k3, k4⟩ := LDb.out _ hS; go_simp) ?_
  refine Rg.join (σ := Option Addr × Nat × Nat) 127 2 (fun s => [(37, .int .i64 (i : Int)), (12, .int .i64 v), (36, .agg #[.int .i64 N, .slice (s.1) (n + 1) (s.2.1)]), (14, .pointer (some ⟨s.2.2, 0, none⟩))]) (fun s W => Below Wb.heap.size Wb W ∧ k24.R 24 W 0 (fun _ => True) (.slice s.1 (n + 1) s.2.1) (ls.take i ++ [(v, v)] ++ ls.drop i) ∧ n + 1 ≤ s.2.1 ∧ W.heap[s.2.2]? = some (.cells #[.int .i64 0, .slice none 0 0] 27 (0, 0)) ∧ Wb.heap.size ≤ s.2.2) ?_ ?_
  · rintro ⟨A3, c3, gb⟩ W2 ⟨hbW, hR3, hc3, hx3, hgb⟩
    simp only at hR3 hc3 hx3 hgb ⊢
    clear hS
    have hS := hbW
    have hbS : Below Wb.heap.size Wb ((W2.setCell ⟨gb, 0, none⟩ (.int .i64 N)).setCell ⟨gb, 1, none⟩ (.slice A3 (n + 1) c3)) := (hbW.setCell hgb _).setCell hgb _
    have ht : ∀ q, q ∈ 24 :: k24.E → q ≠ 27 := fun q hq => by simp [k24_E] at hq; subst hq; decide
    have hq1 : (W2.setCell ⟨gb, 0, none⟩ (.int .i64 N)).heap[gb]? = some (.cells #[.int .i64 N, .slice none 0 0] 27 (0, 0)) := by simpa using blk_set hx3 0 (.int .i64 N)
    have hRS : k24.R 24 ((W2.setCell ⟨gb, 0, none⟩ (.int .i64 N)).setCell ⟨gb, 1, none⟩ (.slice A3 (n + 1) c3)) 0 (fun _ => True) (.slice A3 (n + 1) c3) (ls.take i ++ [(v, v)] ++ ls.drop i) := Kd.R_set (Kd.R_set hR3 hx3 ht 0 (.int .i64 N)) hq1 ht 1 _
    have hxS : ((W2.setCell ⟨gb, 0, none⟩ (.int .i64 N)).setCell ⟨gb, 1, none⟩ (.slice A3 (n + 1) c3)).heap[gb]? = some (.cells #[.int .i64 N, .slice A3 (n + 1) c3] 27 (0, 0)) := set_two hx3
    refine Rg.store C 7 255 (Op.store 27 (Operand.tmp 14) (Operand.tmp 36)) (by kernel_rfl) (by kernel_rfl) (fun a hF o ho hd K hK => ?_)
    have h1 := (hF.ev (x := .tmp 14) (by kernel_rfl)).trans (show _ = .pointer (some ⟨gb, 0, none⟩) by kernel_rfl)
    have h2 := (hF.ev (x := .tmp 36) (by kernel_rfl)).trans (show _ = .agg #[.int .i64 N, .slice A3 (n + 1) c3] by kernel_rfl)
    have hfr0 := blk_frozen hx3 0
    have hfr1 := blk_frozen hx3 1
    have hcl0 : W2.cell? ⟨gb, 0, none⟩ = some (.int .i64 0) := (blk_cell hx3 0).trans rfl
    have hcl1 : W2.cell? ⟨gb, 1, none⟩ = some (.slice none 0 0) := (blk_cell hx3 1).trans rfl
    refine Rg.wp_store (w1 := ((W2.setCell ⟨gb, 0, none⟩ (.int .i64 N)).setCell ⟨gb, 1, none⟩ (.slice A3 (n + 1) c3))) hd (by unfold execOp; simp only [ho]; rw [h1, h2]; go_simp) (hK _ hbS ?_)
    clear hK K hF ho hd o a h1 h2 hfr0 hfr1 hcl0 hcl1
    generalize ((W2.setCell ⟨gb, 0, none⟩ (.int .i64 N)).setCell ⟨gb, 1, none⟩ (.slice A3 (n + 1) c3)) = W5 at hbS hRS hxS ⊢
    clear hS
    have hS := hbS
    refine Rg.move C 8 15 511 (.int .i64 (i : Int)) (by kernel_rfl) (by kernel_rfl) ?_
    refine Rg.done_set C [(14, some (.pointer (some ⟨gb, 0, none⟩))), (15, some (.int .i64 (i : Int))), (32, none), (33, none), (34, none), (35, none), (36, none), (37, none)] (by kernel_rfl) (by kernel_rfl) (by kernel_rfl) (by kernel_rfl) (by kernel_rfl) (fun u => HE.out _ _ ?_)
    simp only [Rg.sets, List.map_cons, List.map_nil, Option.getD_some, Option.getD_none, List.foldl_cons, List.foldl_nil]
    simp only [List.set_cons_succ, List.set_cons_zero]
    clear hR3 hx3 hbW hq1 ht hS HE C hb0
    have HB5 := Aside0.mk hbS
    have HX5 := Aside0.mk hxS
    have HR5 := Aside0.mk hRS
    have HG5 := Aside0.mk hgb
    have HC3 := Aside0.mk hc3
    clear hbS hxS hRS hgb hc3
    have ht : Aside0 (∀ q, q ∈ 24 :: k24.E → q ≠ 27) := ⟨fun q hq => by simp [k24_E] at hq; subst hq; decide⟩
    go_upto_region 8 with ((go_at_call 20; (with_reducible refine (within_val what 0 3 _ (by omega) (by omega) (by omega)).mono ?_); rintro e w' ⟨rfl, rfl⟩))
    obtain ⟨q, hq⟩ : ∃ q, wi what 0 3 = q := ⟨_, rfl⟩
    have hqr := wi_rng what (lo := 0) (hi := 3) (by omega)
    rw [hq] at hqr ⊢
    clear hq
    have hq4 : q = 0 ∨ q = 1 ∨ q = 2 ∨ q = 3 := by omega
    clear hqr
    rcases hq4 with rfl | rfl | rfl | rfl
    · have HBZ := HB5
      have HXZ := HX5
      have HCZ : Aside0 (Kd.C k24 W5 A3 (n + 1) (ls.take i ++ [(v, v)] ++ ls.drop i)) := ⟨by have := (Kd.R_reads' HR5.out).2.2; rw [HLN1.out] at this; exact this⟩
      have HTZ : Aside0 (Told N (ls.take i ++ [(v, v)] ++ ls.drop i) (some (i : Int))) := ⟨by rw [List.append_assoc]; exact bad_insert HR.out (okL_self N v) HI.out⟩
      have HNZ : Aside0 (n + 1 ≤ c3 ∧ n + 1 ≤ 1000000 ∧ N ≤ 1000000) := ⟨HC3.out, by have := HL.out; omega, HC.out.2.2⟩
      clear PUT
      have hb0 : W5.cell? ⟨gb, 0, none⟩ = some (.int .i64 (N)) := (blk_cell HXZ.out 0).trans rfl
      have hb1 : W5.cell? ⟨gb, 1, none⟩ = some (.slice (A3) (n + 1) (c3)) := (blk_cell HXZ.out 1).trans rfl
      go_upto_region 20 with ((go_at_call 25; (with_reducible refine (check_at (N) (A3) (n + 1) (c3) (ls.take i ++ [(v, v)] ++ ls.drop i) _ ((i : Int)) HCZ.out HNZ.out.1 HNZ.out.2.1 HNZ.out.2.2 HTZ.out).mono ?_); rintro e w8 ⟨ge, rfl, hE, hb8⟩; have HE8 := Aside0.mk hE; have HB8 := Aside0.mk (below_step HBZ.out hb8); clear hE hb8))
      have hg0 := (LDb.out _ HB8.out).1
      have hg1 := (LDb.out _ HB8.out).2.1
      have HCg := Aside0.mk (LDb.out _ HB8.out).2.2.1
      clear hb0 hb1
      go_wp2_with (first
        | (go_at_call 25; (with_reducible refine (check_nil N (A) n c2 ls _ HCg.out HC.out.1 HR.out).mono ?_); rintro e w9 ⟨rfl, hb⟩; have HB9 := Aside0.mk (below_step HB8.out hb); have HE9 : Aside0 (errOk w9 ge (some ((i : Int)))) := ⟨Er.Err.okBelow hb HE8.out⟩; clear hb)
        | (go_at_call 15; (with_reducible refine (kind_e ge ((i : Int)) _ (LDb.out _ HB9.out).2.2.2.1 HE9.out).mono ?_); rintro e w10 ⟨rfl, hb⟩; have HB10 := Aside0.mk (below_step HB9.out hb); have HE10 : Aside0 (errOk w10 ge (some ((i : Int)))) := ⟨Er.Err.okBelow hb HE9.out⟩; clear hb)
        | (go_at_call 16; (with_reducible refine (place_e ge ((i : Int)) _ (LDb.out _ HB10.out).2.2.2.1 HE10.out).mono ?_); rintro e w11 ⟨rfl, hb⟩; have HB11 := Aside0.mk (below_step HB10.out hb); have HE11 : Aside0 (errOk w11 ge (some ((i : Int)))) := ⟨Er.Err.okBelow hb HE10.out⟩; clear hb)
        | (go_at_call 35; (with_reducible refine (trace_e ge ((i : Int)) _ (LDb.out _ HB11.out).2.2.2.1 HE11.out).mono ?_); rintro e w12 ⟨ta, tc, rfl, htc, hb⟩; have HB12 := Aside0.mk (below_step HB11.out hb); have HT12 := Aside0.mk htc; clear hb htc)
        | (go_at_call 34; (with_reducible refine (same_graph ta ⟨w12.heap.size, 0, none⟩ tc 1 _ (pw_cell_below (below_alloc (Below.refl _ _) _) HT12.out) ((blk_cell (heap_alloc_new w12 _) 0).trans rfl)).mono ?_); rintro e w13 ⟨rfl, hb⟩; have HB13 := Aside0.mk (below_step (below_alloc HB12.out _) hb); clear hb)
        | (go_at_call 6; (with_reducible refine (runs_calls _ (LDb.out _ HB13.out).2.2.2.1).mono ?_); rintro e w14 ⟨rfl, hb⟩; have HB14 := Aside0.mk (below_step HB13.out hb); clear hb))
      go_ret
      exact ⟨rfl, below_step HBb.out HB14.out⟩
    · have hg0 := (LDb.out _ HB5.out).1
      go_upto_region 19 with ((go_at_call 33; (with_reducible refine (PUT.out _ HB5.out v N).mono ?_); rintro e w6 ⟨A6, c6, rfl, hR6, hc6, hb6⟩; have hx6 := (hb6.block _ (blk_lt HX5.out)).trans HX5.out; have hfr0 := blk_frozen hx6 0; have hfr1 := blk_frozen hx6 1; have hcl0 : w6.cell? ⟨gb, 0, none⟩ = some (.int .i64 N) := (blk_cell hx6 0).trans rfl; have hcl1 : w6.cell? ⟨gb, 1, none⟩ = some (.slice A3 (n + 1) c3) := (blk_cell hx6 1).trans rfl; have HR6 := Aside0.mk hR6; have HB6 := Aside0.mk (below_step HB5.out hb6); have HX6 := Aside0.mk hx6; have HC6 := Aside0.mk hc6; clear hR6 hc6 hb6 hx6))
      have hxz : ((w6.setCell ⟨gb, 0, none⟩ (.int .i64 N)).setCell ⟨gb, 1, none⟩ (.slice A6 (n + 1) c6)).heap[gb]? = some (.cells #[.int .i64 N, .slice A6 (n + 1) c6] 27 (0, 0)) := set_two HX6.out
      have hbz : Below Wb.heap.size Wb ((w6.setCell ⟨gb, 0, none⟩ (.int .i64 N)).setCell ⟨gb, 1, none⟩ (.slice A6 (n + 1) c6)) := (HB6.out.setCell HG5.out _).setCell HG5.out _
      have hq1 : (w6.setCell ⟨gb, 0, none⟩ (.int .i64 N)).heap[gb]? = some (.cells #[.int .i64 N, .slice A3 (n + 1) c3] 27 (0, 0)) := by simpa using blk_set HX6.out 0 (.int .i64 N)
      have hrz := Kd.R_set (Kd.R_set HR6.out HX6.out ht.out 0 (.int .i64 N)) hq1 ht.out 1 (.slice A6 (n + 1) c6)
      generalize (w6.setCell ⟨gb, 0, none⟩ (.int .i64 N)).setCell ⟨gb, 1, none⟩ (.slice A6 (n + 1) c6) = Wz at hxz hbz hrz ⊢
      have HBZ := Aside0.mk hbz
      have HXZ := Aside0.mk hxz
      have HCZ : Aside0 (Kd.C k24 Wz A6 (n + 1) (ls.take i ++ [(v, N)] ++ ls.drop i)) := ⟨by have := (Kd.R_reads' hrz).2.2; rw [HLN1.out] at this; exact this⟩
      have HTZ : Aside0 (Told N (ls.take i ++ [(v, N)] ++ ls.drop i) (some (i : Int))) := ⟨by rw [List.append_assoc]; exact bad_insert HR.out (okL_out N v) HI.out⟩
      have HNZ : Aside0 (n + 1 ≤ c6 ∧ n + 1 ≤ 1000000 ∧ N ≤ 1000000) := ⟨HC6.out, by have := HL.out; omega, HC.out.2.2⟩
      clear PUT hg0 hfr0 hfr1 hcl0 hcl1 hxz hbz hrz hq1
      have hb0 : Wz.cell? ⟨gb, 0, none⟩ = some (.int .i64 (N)) := (blk_cell HXZ.out 0).trans rfl
      have hb1 : Wz.cell? ⟨gb, 1, none⟩ = some (.slice (A6) (n + 1) (c6)) := (blk_cell HXZ.out 1).trans rfl
      go_upto_region 20 with ((go_at_call 25; (with_reducible refine (check_at (N) (A6) (n + 1) (c6) (ls.take i ++ [(v, N)] ++ ls.drop i) _ ((i : Int)) HCZ.out HNZ.out.1 HNZ.out.2.1 HNZ.out.2.2 HTZ.out).mono ?_); rintro e w8 ⟨ge, rfl, hE, hb8⟩; have HE8 := Aside0.mk hE; have HB8 := Aside0.mk (below_step HBZ.out hb8); clear hE hb8))
      have hg0 := (LDb.out _ HB8.out).1
      have hg1 := (LDb.out _ HB8.out).2.1
      have HCg := Aside0.mk (LDb.out _ HB8.out).2.2.1
      clear hb0 hb1
      go_wp2_with (first
        | (go_at_call 25; (with_reducible refine (check_nil N (A) n c2 ls _ HCg.out HC.out.1 HR.out).mono ?_); rintro e w9 ⟨rfl, hb⟩; have HB9 := Aside0.mk (below_step HB8.out hb); have HE9 : Aside0 (errOk w9 ge (some ((i : Int)))) := ⟨Er.Err.okBelow hb HE8.out⟩; clear hb)
        | (go_at_call 15; (with_reducible refine (kind_e ge ((i : Int)) _ (LDb.out _ HB9.out).2.2.2.1 HE9.out).mono ?_); rintro e w10 ⟨rfl, hb⟩; have HB10 := Aside0.mk (below_step HB9.out hb); have HE10 : Aside0 (errOk w10 ge (some ((i : Int)))) := ⟨Er.Err.okBelow hb HE9.out⟩; clear hb)
        | (go_at_call 16; (with_reducible refine (place_e ge ((i : Int)) _ (LDb.out _ HB10.out).2.2.2.1 HE10.out).mono ?_); rintro e w11 ⟨rfl, hb⟩; have HB11 := Aside0.mk (below_step HB10.out hb); have HE11 : Aside0 (errOk w11 ge (some ((i : Int)))) := ⟨Er.Err.okBelow hb HE10.out⟩; clear hb)
        | (go_at_call 35; (with_reducible refine (trace_e ge ((i : Int)) _ (LDb.out _ HB11.out).2.2.2.1 HE11.out).mono ?_); rintro e w12 ⟨ta, tc, rfl, htc, hb⟩; have HB12 := Aside0.mk (below_step HB11.out hb); have HT12 := Aside0.mk htc; clear hb htc)
        | (go_at_call 34; (with_reducible refine (same_graph ta ⟨w12.heap.size, 0, none⟩ tc 1 _ (pw_cell_below (below_alloc (Below.refl _ _) _) HT12.out) ((blk_cell (heap_alloc_new w12 _) 0).trans rfl)).mono ?_); rintro e w13 ⟨rfl, hb⟩; have HB13 := Aside0.mk (below_step (below_alloc HB12.out _) hb); clear hb)
        | (go_at_call 6; (with_reducible refine (runs_calls _ (LDb.out _ HB13.out).2.2.2.1).mono ?_); rintro e w14 ⟨rfl, hb⟩; have HB14 := Aside0.mk (below_step HB13.out hb); clear hb))
      go_ret
      exact ⟨rfl, below_step HBb.out HB14.out⟩
    · by_cases hn0 : n = 0
      · have dn : ((n : Int) == 0) = true := by rw [hn0]; rfl
        go_wp2_with ((go_at_call 6; (with_reducible refine (runs_calls _ (LDb.out _ HB5.out).2.2.2.1).mono ?_); rintro e w14 ⟨rfl, hb⟩; have HB14 := Aside0.mk (below_step HB5.out hb); clear hb))
        go_ret
        exact ⟨rfl, below_step HBb.out HB14.out⟩
      · have dn : ((n : Int) == 0) = false := by simp; omega
        have hn1 : 1 ≤ n := by omega
        have hjr := wi_rng a_ (lo := 0) (hi := (n : Int) - 1) (by omega)
        obtain ⟨j, hj⟩ : ∃ j : Nat, wi a_ 0 ((n : Int) - 1) = (j : Int) := ⟨(wi a_ 0 ((n : Int) - 1)).toNat, (Int.toNat_of_nonneg hjr.1).symm⟩
        rw [hj] at hjr
        have hjn : j < n := by omega
        have WJ : Aside0 (∀ W', Calls Tryd.prog 20 #[.int .i64 a_, .int .i64 0, .int .i64 ((n : Int) - 1)] W' fun e w' => e = .returned (.int .i64 (j : Int)) ∧ W' = w') := ⟨fun W' => by rw [← hj]; exact within_val a_ 0 ((n : Int) - 1) W' (by omega) (by omega) (by omega)⟩
        obtain ⟨⟨xa, xb⟩, hx⟩ : ∃ x, ls[j]? = some x := ⟨_, List.getElem?_eq_getElem (by rw [HLN.out.1]; exact hjn)⟩
        have HXM := Aside0.mk (List.mem_of_getElem? hx)
        obtain ⟨ad, ea, hx0, hx1⟩ := at24n (LDb.out _ HB5.out).2.2.1 hx
        cases ea
        have hg0 := (LDb.out _ HB5.out).1
        have hg1 := (LDb.out _ HB5.out).2.1
        have hfr0 := blk_frozen HX5.out 0
        have hfr1 := blk_frozen HX5.out 1
        have hcl0 : W5.cell? ⟨gb, 0, none⟩ = some (.int .i64 N) := (blk_cell HX5.out 0).trans rfl
        have hcl1 : W5.cell? ⟨gb, 1, none⟩ = some (.slice A3 (n + 1) c3) := (blk_cell HX5.out 1).trans rfl
        clear hx0 hx1 hj hjr
        have HJ := Aside0.mk hx
        clear hx PUT
        go_upto_region 14 with (fail)
        have hxc : ((W5.setCell ⟨gb, 0, none⟩ (.int .i64 N)).setCell ⟨gb, 1, none⟩ (.slice (some ad) n c2)).heap[gb]? = some (.cells #[.int .i64 N, .slice (some ad) n c2] 27 (0, 0)) := set_two HX5.out
        have hbc : Below Wb.heap.size Wb ((W5.setCell ⟨gb, 0, none⟩ (.int .i64 N)).setCell ⟨gb, 1, none⟩ (.slice (some ad) n c2)) := (HB5.out.setCell HG5.out _).setCell HG5.out _
        generalize (W5.setCell ⟨gb, 0, none⟩ (.int .i64 N)).setCell ⟨gb, 1, none⟩ (.slice (some ad) n c2) = Wc at hxc hbc ⊢
        have HXC := Aside0.mk hxc
        have HBC := Aside0.mk hbc
        clear hxc hbc hg0 hg1 hfr0 hfr1 hcl0 hcl1
        have LX : Aside0 (∀ w', Below Wc.heap.size Wc w' → w'.cell? ⟨g, 0, none⟩ = some (.int .i64 N) ∧ w'.cell? ⟨g, 1, none⟩ = some (.slice (some ad) n c2) ∧ w'.cell? (ad.add (j * 2)) = some (.int .i64 xa) ∧ w'.cell? ⟨(ad.add (j * 2)).block, (ad.add (j * 2)).off + 1, none⟩ = some (.int .i64 xb)) := ⟨fun w' h => by
          obtain ⟨a1, a2, a3, _, _⟩ := LDb.out w' (below_step HBC.out h)
          obtain ⟨ad', ea, h1, h2⟩ := at24n a3 HJ.out
          cases ea
          exact ⟨a1, a2, h1, h2⟩⟩
        have en1 : IntKind.i64.wrap ((n : Int) - 1) = (n : Int) - 1 := IntWalk.i64_in _ (by omega)
        have hj0 : (0 : Int) ≤ (j : Int) := by omega
        have hj1 : (j : Int) < (n : Int) := by omega
        refine Rg.startz [9] badB (fun w' => Below Wc.heap.size Wc w') 107 10 9187343239835877376 [(3, .int .i64 a_), (9, .pointer (some ⟨g, 0, none⟩)), (10, .int .i64 (n : Int))] badBt (by kernel_rfl) (by kernel_rfl) badBT (by decide) (fun c a a' w e h => ⟨e ▸ h.1, h.2⟩) (by kernel_rfl) ⟨rfl, rfl, rfl, trivial⟩ (below_drew (Below.refl _ _)) (fun Q' C HE hS => ?_)
        have hb0 : Below Wc.heap.size Wc Wc.drew := below_drew (Below.refl _ _)
        generalize Wc.drew = V0 at hb0 hS ⊢
        refine Rg.gen C hS 0 55 1 (.pointer (some ⟨g, 1, none⟩)) (Op.fieldAddr 27 (Operand.tmp 9) 1) [(Operand.tmp 9, .pointer (some ⟨g, 0, none⟩))] (by kernel_rfl) (by kernel_rfl) (by kernel_rfl) (fun o ho ρ h w hS => by have h1 := h _ (.head _); simp only at h1; clear h; unfold execOp; simp only [ho, h1]; go_simp) ?_
        refine Rg.gen C hS 1 56 3 (.slice (some ad) n c2) (Op.load 25 (Operand.tmp 55)) [(Operand.tmp 55, .pointer (some ⟨g, 1, none⟩))] (by kernel_rfl) (by kernel_rfl) (by kernel_rfl) (fun o ho ρ h w hS => by have h1 := h _ (.head _); simp only at h1; clear h; unfold execOp; simp only [ho, h1]; obtain ⟨k0, k1, k2, k3⟩ := LX.out _ hS; go_simp) ?_
        refine Rg.move C 2 57 7 (.int .i64 a_) (by kernel_rfl) (by kernel_rfl) ?_
        refine Rg.move C 3 58 15 (.int .i64 (n : Int)) (by kernel_rfl) (by kernel_rfl) ?_
        refine Rg.gen C hS 4 59 31 (.int .i64 ((n : Int) - 1)) (Op.binOp BinOp.sub 3 (Operand.tmp 58) (Operand.const (Value.int IntKind.i64 1)) 3) [(Operand.tmp 58, .int .i64 (n : Int)), (Operand.const (Value.int IntKind.i64 1), Value.int IntKind.i64 1)] (by kernel_rfl) (by kernel_rfl) (by kernel_rfl) (fun o ho ρ h w hS => by have h1 := h _ (.head _); have h2 := h _ (.tail _ (.head _)); simp only at h1 h2; clear h; unfold execOp; simp only [ho, h1, h2]; go_simp) ?_
        refine Rg.join (σ := Nat) 511 1 (fun s => [(62, .agg #[.int .i64 xa, .int .i64 xb]), (16, .pointer (some ⟨s, 0, none⟩))]) (fun s W => Below Wc.heap.size Wc W ∧ W.heap[s]? = some (.cells #[.int .i64 0, .int .i64 0] 24 (0, 0)) ∧ Wc.heap.size ≤ s) ?_ ?_
        · rintro lb W2 ⟨hbW, hxl, hlb⟩
          clear hS
          have hbS : Below Wc.heap.size Wc ((W2.setCell ⟨lb, 0, none⟩ (.int .i64 xa)).setCell ⟨lb, 1, none⟩ (.int .i64 xb)) := (hbW.setCell hlb _).setCell hlb _
          have hxS : ((W2.setCell ⟨lb, 0, none⟩ (.int .i64 xa)).setCell ⟨lb, 1, none⟩ (.int .i64 xb)).heap[lb]? = some (.cells #[.int .i64 xa, .int .i64 xb] 24 (0, 0)) := by
            have h1 : (W2.setCell ⟨lb, 0, none⟩ (.int .i64 xa)).heap[lb]? = some (.cells #[.int .i64 xa, .int .i64 0] 24 (0, 0)) := by simpa using blk_set hxl 0 (.int .i64 xa)
            simpa using blk_set h1 1 (.int .i64 xb)
          refine Rg.last C 9 1023 (Op.store 24 (Operand.tmp 16) (Operand.tmp 62)) (by kernel_rfl) (by kernel_rfl) (fun a hF o ho hd K hK => ?_)
          have h1 := (hF.ev (x := .tmp 16) (by kernel_rfl)).trans (show _ = .pointer (some ⟨lb, 0, none⟩) by kernel_rfl)
          have h2 := (hF.ev (x := .tmp 62) (by kernel_rfl)).trans (show _ = .agg #[.int .i64 xa, .int .i64 xb] by kernel_rfl)
          have hfr0 := blk_frozen hxl 0
          have hfr1 := blk_frozen hxl 1
          have hcl0 : W2.cell? ⟨lb, 0, none⟩ = some (.int .i64 0) := (blk_cell hxl 0).trans rfl
          have hcl1 : W2.cell? ⟨lb, 1, none⟩ = some (.int .i64 0) := (blk_cell hxl 1).trans rfl
          refine Rg.wp_store (w1 := ((W2.setCell ⟨lb, 0, none⟩ (.int .i64 xa)).setCell ⟨lb, 1, none⟩ (.int .i64 xb))) hd (by unfold execOp; simp only [ho]; rw [h1, h2]; go_simp) (hK _ ?_)
          clear hK K hF ho hd o a h1 h2 hfr0 hfr1 hcl0 hcl1
          generalize ((W2.setCell ⟨lb, 0, none⟩ (.int .i64 xa)).setCell ⟨lb, 1, none⟩ (.int .i64 xb)) = W7 at hbS hxS ⊢
          refine Rg.done_set C [(16, some (.pointer (some ⟨lb, 0, none⟩))), (55, none), (56, none), (57, none), (58, none), (59, none), (60, none), (61, none), (62, none)] (by kernel_rfl) (by kernel_rfl) (by kernel_rfl) (by kernel_rfl) (by kernel_rfl) (fun u => HE.out _ _ ?_)
          simp only [Rg.sets, List.map_cons, List.map_nil, Option.getD_some, Option.getD_none, List.foldl_cons, List.foldl_nil]
          simp only [List.set_cons_succ, List.set_cons_zero]
          clear hxl hlb hbW hb0 HE C
          have HB7 := Aside0.mk (below_step HBC.out hbS)
          have HX7 := Aside0.mk ((hbS.block _ (blk_lt HXC.out)).trans HXC.out)
          have LY : Aside0 (∀ w', Below W7.heap.size W7 w' → w'.cell? ⟨g, 0, none⟩ = some (.int .i64 N) ∧ w'.cell? ⟨g, 1, none⟩ = some (.slice (some ad) n c2) ∧ w'.cell? ⟨lb, 0, none⟩ = some (.int .i64 xa) ∧ w'.cell? ⟨lb, 1, none⟩ = some (.int .i64 xb)) := ⟨fun w' h => by
            obtain ⟨a1, a2, _⟩ := LX.out w' (below_step hbS h)
            exact ⟨a1, a2, (h.cell (blk_lt hxS)).trans ((blk_cell hxS 0).trans rfl), (h.cell (blk_lt hxS)).trans ((blk_cell hxS 1).trans rfl)⟩⟩
          have CY : Aside0 (Kd.C k24 W7 (some ad) n ls) := ⟨(LDb.out _ HB7.out).2.2.1⟩
          have LG : Aside0 (∀ w', Below W7.heap.size W7 w' → w'.heap[gb]? = some (.cells #[.int .i64 N, .slice (some ad) n c2] 27 (0, 0))) := ⟨fun w' h => (h.block _ (blk_lt HX7.out)).trans HX7.out⟩
          have HLN2 : Aside0 ((ls ++ [(xb, xa)]).length = n + 1) := ⟨by rw [List.length_append, HLN.out.1]; rfl⟩
          have hlsn : ls.length = n := HLN.out.1
          clear hbS hxS
          go_upto_region 15 with (fail)
          refine Rg.startz [12] badC (fun w' => Below W7.heap.size W7 w') 107 13 37769708490920306933760 [(9, .pointer (some ⟨g, 0, none⟩)), (14, .pointer (some ⟨gb, 0, none⟩)), (16, .pointer (some ⟨lb, 0, none⟩))] badCt (by kernel_rfl) (by kernel_rfl) badCT (by decide) (fun c a a' w e h => ⟨e ▸ h.1, h.2⟩) (by kernel_rfl) ⟨rfl, rfl, rfl, trivial⟩ (below_drew (Below.refl _ _)) (fun Q' C HE hS => ?_)
          have hb0 : Below W7.heap.size W7 W7.drew := below_drew (Below.refl _ _)
          generalize W7.drew = V0 at hb0 hS ⊢
          refine Rg.gen C hS 1 64 2 (.pointer (some ⟨g, 1, none⟩)) (Op.fieldAddr 27 (Operand.tmp 9) 1) [(Operand.tmp 9, .pointer (some ⟨g, 0, none⟩))] (by kernel_rfl) (by kernel_rfl) (by kernel_rfl) (fun o ho ρ h w hS => by have h1 := h _ (.head _); simp only at h1; clear h; unfold execOp; simp only [ho, h1]; go_simp) ?_
          refine Rg.gen C hS 2 65 6 (.slice (some ad) n c2) (Op.load 25 (Operand.tmp 64)) [(Operand.tmp 64, .pointer (some ⟨g, 1, none⟩))] (by kernel_rfl) (by kernel_rfl) (by kernel_rfl) (fun o ho ρ h w hS => by have h1 := h _ (.head _); simp only at h1; clear h; unfold execOp; simp only [ho, h1]; obtain ⟨k0, k1, k2, k3⟩ := LY.out _ hS; go_simp) ?_
          refine Rg.gen C hS 4 67 22 (.pointer (some ⟨lb, 1, none⟩)) (Op.indexAddr 24 (Operand.tmp 16) (Operand.const (Value.int IntKind.i64 1))) [(Operand.tmp 16, .pointer (some ⟨lb, 0, none⟩)), (Operand.const (Value.int IntKind.i64 1), Value.int IntKind.i64 1)] (by kernel_rfl) (by kernel_rfl) (by kernel_rfl) (fun o ho ρ h w hS => by have h1 := h _ (.head _); have h2 := h _ (.tail _ (.head _)); simp only at h1 h2; clear h; unfold execOp; simp only [ho, h1, h2]; go_simp) ?_
          refine Rg.gen C hS 5 68 54 (.int .i64 xb) (Op.load 3 (Operand.tmp 67)) [(Operand.tmp 67, .pointer (some ⟨lb, 1, none⟩))] (by kernel_rfl) (by kernel_rfl) (by kernel_rfl) (fun o ho ρ h w hS => by have h1 := h _ (.head _); simp only at h1; clear h; unfold execOp; simp only [ho, h1]; obtain ⟨k0, k1, k2, k3⟩ := LY.out _ hS; go_simp) ?_
          refine Rg.gen C hS 6 69 118 (.pointer (some ⟨lb, 0, none⟩)) (Op.indexAddr 24 (Operand.tmp 16) (Operand.const (Value.int IntKind.i64 0))) [(Operand.tmp 16, .pointer (some ⟨lb, 0, none⟩)), (Operand.const (Value.int IntKind.i64 0), Value.int IntKind.i64 0)] (by kernel_rfl) (by kernel_rfl) (by kernel_rfl) (fun o ho ρ h w hS => by have h1 := h _ (.head _); have h2 := h _ (.tail _ (.head _)); simp only at h1 h2; clear h; unfold execOp; simp only [ho, h1, h2]; go_simp) ?_
          refine Rg.gen C hS 7 70 246 (.int .i64 xa) (Op.load 3 (Operand.tmp 69)) [(Operand.tmp 69, .pointer (some ⟨lb, 0, none⟩))] (by kernel_rfl) (by kernel_rfl) (by kernel_rfl) (fun o ho ρ h w hS => by have h1 := h _ (.head _); simp only at h1; clear h; unfold execOp; simp only [ho, h1]; obtain ⟨k0, k1, k2, k3⟩ := LY.out _ hS; go_simp) ?_
          refine Rg.gen C hS 8 71 502 (.agg #[.int .i64 xb, .int .i64 xa]) (Op.build 24 #[(0, Operand.tmp 68), (1, Operand.tmp 70)]) [(Operand.tmp 68, .int .i64 xb), (Operand.tmp 70, .int .i64 xa)] (by kernel_rfl) (by kernel_rfl) (by kernel_rfl) (fun o ho ρ h w hS => by have h1 := h _ (.head _); have h2 := h _ (.tail _ (.head _)); simp only at h1 h2; clear h; unfold execOp; simp only [ho, h1, h2]; go_simp) ?_
          refine Rg.join (σ := Value × Nat) 1023 3 (fun s => [(14, .pointer (some ⟨gb, 0, none⟩)), (66, s.1), (72, .slice (some ⟨s.2, 0, none⟩) 1 1)]) (fun s W => Below W7.heap.size W7 W ∧ k24.R 24 W W7.heap.size (fun _ => True) s.1 ls ∧ W.heap[s.2]? = some (.cells #[.int .i64 xb, .int .i64 xa] 24 (0, 0))) ?_ ?_
          · rintro ⟨vA, gb9⟩ W2 ⟨hbW, hRa, hXb⟩
            simp only at hRa hXb ⊢
            clear hS
            have hS := hbW
            refine Rg.raw C 10 73 2047 (Op.call { callee := Callee.builtin Builtin.append, args := #[Operand.tmp 66, Operand.tmp 72], argTypes := #[25, 25] }) (by kernel_rfl) (by kernel_rfl) (fun a hF o ho hod hwt K hK => ?_)
            refine app24 (w0 := W7) W7.heap.size hwt (.tmp 66) (.tmp 72) ho (vA) ls [(xb, xa)] (some ⟨gb9, 0, none⟩) 1 1 ((hF.ev (by kernel_rfl)).trans (by kernel_rfl)) ((hF.ev (by kernel_rfl)).trans (by kernel_rfl)) hRa (C_one24 (x := (xb, xa)) hXb) hbW hbW.size (by simp; omega) (fun vv3 ww3 hR3 hb3 hg3 => ?_)
            refine hK.out _ _ hb3 ?_
            clear hK K hF hwt ho hod o a hS
            have hS := hb3
            refine Rg.gen C hS 11 74 4095 (.pointer (some ⟨gb, 1, none⟩)) (Op.fieldAddr 27 (Operand.tmp 14) 1) [(Operand.tmp 14, .pointer (some ⟨gb, 0, none⟩))] (by kernel_rfl) (by kernel_rfl) (by kernel_rfl) (fun o ho ρ h w hS => by have h1 := h _ (.head _); simp only at h1; clear h; unfold execOp; simp only [ho, h1]; go_simp) ?_
            obtain ⟨A5, c5, rfl, hc5, hC5⟩ := Kd.R_reads hR3
            rw [HLN2.out] at hc5 hC5 hR3 ⊢
            have hbk := LG.out _ hb3
            have hfr := blk_frozen hbk 1
            have hcl : ww3.cell? ⟨gb, 1, none⟩ = some (.slice (some ad) n c2) := (blk_cell hbk 1).trans rfl
            refine Rg.last C 12 8191 (Op.store 25 (Operand.tmp 74) (Operand.tmp 73)) (by kernel_rfl) (by kernel_rfl) (fun a hF o ho hd K hK => ?_)
            have h1 := (hF.ev (x := .tmp 74) (by kernel_rfl)).trans (show _ = .pointer (some ⟨gb, 1, none⟩) by kernel_rfl)
            have h2 := (hF.ev (x := .tmp 73) (by kernel_rfl)).trans (show _ = .slice A5 (n + 1) c5 by kernel_rfl)
            refine Rg.wp_store (w1 := ww3.setCell ⟨gb, 1, none⟩ (.slice A5 (n + 1) c5)) hd (by unfold execOp; simp only [ho]; rw [h1, h2]; go_simp) (hK _ ?_)
            clear hK K hF ho hd o a h1 h2
            refine Rg.done_set C [(63, none), (64, none), (65, none), (66, none), (67, none), (68, none), (69, none), (70, none), (71, none), (72, none), (73, none), (74, none)] (by kernel_rfl) (by kernel_rfl) (by kernel_rfl) (by kernel_rfl) (by kernel_rfl) (fun u => HE.out _ _ ?_)
            simp only [Rg.sets, List.map_cons, List.map_nil, Option.getD_some, Option.getD_none, List.foldl_cons, List.foldl_nil]
            simp only [List.set_cons_succ, List.set_cons_zero]
            have hxz : (ww3.setCell ⟨gb, 1, none⟩ (.slice A5 (n + 1) c5)).heap[gb]? = some (.cells #[.int .i64 N, .slice A5 (n + 1) c5] 27 (0, 0)) := by simpa using blk_set hbk 1 (.slice A5 (n + 1) c5)
            have hbz : Below Wb.heap.size Wb (ww3.setCell ⟨gb, 1, none⟩ (.slice A5 (n + 1) c5)) := (below_step HB7.out hb3).setCell HG5.out _
            have hrz := Kd.R_set hR3 hbk ht.out 1 (.slice A5 (n + 1) c5)
            generalize ww3.setCell ⟨gb, 1, none⟩ (.slice A5 (n + 1) c5) = Wz at hxz hbz hrz ⊢
            have HBZ := Aside0.mk hbz
            have HXZ := Aside0.mk hxz
            have HCZ : Aside0 (Kd.C k24 Wz A5 (n + 1) (ls ++ [(xb, xa)])) := ⟨by have := (Kd.R_reads' hrz).2.2; rw [HLN2.out] at this; exact this⟩
            have HTZ : Aside0 (Told N (ls ++ [(xb, xa)]) (some (n : Int))) := ⟨by have := bad_twice HR.out HXM.out; rw [hlsn] at this; exact this⟩
            have HNZ : Aside0 (n + 1 ≤ c5 ∧ n + 1 ≤ 1000000 ∧ N ≤ 1000000) := ⟨hc5, by have := HL.out; omega, HC.out.2.2⟩
            clear hxz hbz hrz hc5 hC5 hR3 hb3 hg3 hbW hRa hXb hb0 hS HE C hbk hfr hcl LX LY CY LG
            have hb0 : Wz.cell? ⟨gb, 0, none⟩ = some (.int .i64 (N)) := (blk_cell HXZ.out 0).trans rfl
            have hb1 : Wz.cell? ⟨gb, 1, none⟩ = some (.slice (A5) (n + 1) (c5)) := (blk_cell HXZ.out 1).trans rfl
            go_upto_region 20 with ((go_at_call 25; (with_reducible refine (check_at (N) (A5) (n + 1) (c5) (ls ++ [(xb, xa)]) _ ((n : Int)) HCZ.out HNZ.out.1 HNZ.out.2.1 HNZ.out.2.2 HTZ.out).mono ?_); rintro e w8 ⟨ge, rfl, hE, hb8⟩; have HE8 := Aside0.mk hE; have HB8 := Aside0.mk (below_step HBZ.out hb8); clear hE hb8))
            have hg0 := (LDb.out _ HB8.out).1
            have hg1 := (LDb.out _ HB8.out).2.1
            have HCg := Aside0.mk (LDb.out _ HB8.out).2.2.1
            clear hb0 hb1
            go_wp2_with (first
              | (go_at_call 25; (with_reducible refine (check_nil N (some ad) n c2 ls _ HCg.out HC.out.1 HR.out).mono ?_); rintro e w9 ⟨rfl, hb⟩; have HB9 := Aside0.mk (below_step HB8.out hb); have HE9 : Aside0 (errOk w9 ge (some ((n : Int)))) := ⟨Er.Err.okBelow hb HE8.out⟩; clear hb)
              | (go_at_call 15; (with_reducible refine (kind_e ge ((n : Int)) _ (LDb.out _ HB9.out).2.2.2.1 HE9.out).mono ?_); rintro e w10 ⟨rfl, hb⟩; have HB10 := Aside0.mk (below_step HB9.out hb); have HE10 : Aside0 (errOk w10 ge (some ((n : Int)))) := ⟨Er.Err.okBelow hb HE9.out⟩; clear hb)
              | (go_at_call 16; (with_reducible refine (place_e ge ((n : Int)) _ (LDb.out _ HB10.out).2.2.2.1 HE10.out).mono ?_); rintro e w11 ⟨rfl, hb⟩; have HB11 := Aside0.mk (below_step HB10.out hb); have HE11 : Aside0 (errOk w11 ge (some ((n : Int)))) := ⟨Er.Err.okBelow hb HE10.out⟩; clear hb)
              | (go_at_call 35; (with_reducible refine (trace_e ge ((n : Int)) _ (LDb.out _ HB11.out).2.2.2.1 HE11.out).mono ?_); rintro e w12 ⟨ta, tc, rfl, htc, hb⟩; have HB12 := Aside0.mk (below_step HB11.out hb); have HT12 := Aside0.mk htc; clear hb htc)
              | (go_at_call 34; (with_reducible refine (same_graph ta ⟨w12.heap.size, 0, none⟩ tc 1 _ (pw_cell_below (below_alloc (Below.refl _ _) _) HT12.out) ((blk_cell (heap_alloc_new w12 _) 0).trans rfl)).mono ?_); rintro e w13 ⟨rfl, hb⟩; have HB13 := Aside0.mk (below_step (below_alloc HB12.out _) hb); clear hb)
              | (go_at_call 6; (with_reducible refine (runs_calls _ (LDb.out _ HB13.out).2.2.2.1).mono ?_); rintro e w14 ⟨rfl, hb⟩; have HB14 := Aside0.mk (below_step HB13.out hb); clear hb))
            go_ret
            exact ⟨rfl, below_step HBb.out HB14.out⟩
          · intro hJ
            refine Rg.duo C 0 63 503 (Op.buildSlice 25 0 #[]) 9 72 1014 (Op.buildSlice 25 1 #[(0, Operand.tmp 71)]) (by kernel_rfl) (by kernel_rfl) (by kernel_rfl) (fun a hF o ho hod hwt K hK => ?_) (fun a hF o ho hod hwt K hK => ?_)
            · skip
              refine value_ hwt rfl (v := .slice (some ⟨V0.heap.size, 0, none⟩) 0 0) (w1 := V0.alloc (.cells #[] 24)) (by unfold execOp; simp only [ho]; go_simp) (hK.out _ _ (below_alloc hb0 _) ?_)
              clear hK K hF hwt ho hod o a
              have hb11 : Below W7.heap.size W7 (V0.alloc (.cells #[] 24)) := below_alloc hb0 _
              have hR11 := R_empty24 V0 W7.heap.size hb0.size
              have hs11 : (V0.alloc (.cells #[] 24)).heap.size = V0.heap.size + 1 := by simp
              generalize V0.alloc (.cells #[] 24) = W11 at hb11 hR11 hs11 ⊢
              refine Rg.duo C 3 66 511 (Op.call { callee := Callee.builtin Builtin.append, args := #[Operand.tmp 63, Operand.tmp 65], argTypes := #[25, 25] }) 9 72 1015 (Op.buildSlice 25 1 #[(0, Operand.tmp 71)]) (by kernel_rfl) (by kernel_rfl) (by kernel_rfl) (fun a hF o ho hod hwt K hK => ?_) (fun a hF o ho hod hwt K hK => ?_)
              · skip
                refine app24 (w0 := W7) W7.heap.size hwt (Operand.tmp 63) (Operand.tmp 65) ho (.slice (some ⟨V0.heap.size, 0, none⟩) 0 0) [] ls (some ad) (n) (c2) ((hF.ev (by kernel_rfl)).trans (by kernel_rfl)) ((hF.ev (by kernel_rfl)).trans (by kernel_rfl)) hR11 (Kd.C_below CY.out hb11) hb11 hb11.size (by simp; omega) (fun vv12 ww12 hR12 hb12 hg12 => ?_)
                rw [List.nil_append] at hR12
                refine hK.out _ _ hb12 ?_
                clear hK K hF hwt ho hod o a
                refine Rg.raw C 9 72 1023 (Op.buildSlice 25 1 #[(0, Operand.tmp 71)]) (by kernel_rfl) (by kernel_rfl) (fun a hF o ho hod hwt K hK => ?_)
                have hev := (hF.ev (x := Operand.tmp 71) (by kernel_rfl)).trans (show _ = .agg #[.int .i64 xb, .int .i64 xa] by kernel_rfl)
                refine value_ hwt rfl (v := .slice (some ⟨ww12.heap.size, 0, none⟩) 1 1) (w1 := ww12.alloc (.cells #[.int .i64 xb, .int .i64 xa] 24)) (by unfold execOp; simp only [ho]; simp [hev]; go_simp) (hK.out _ _ (below_alloc hb12 _) ?_)
                clear hK K hF hwt ho hod o a hev
                have hb13 : Below W7.heap.size W7 (ww12.alloc (.cells #[.int .i64 xb, .int .i64 xa] 24)) := below_alloc hb12 _
                have hx13 := heap_alloc_new ww12 (.cells #[.int .i64 xb, .int .i64 xa] 24)
                have hR13 := Kd.R_below hR12 (below_alloc (Below.refl _ _) (.cells #[.int .i64 xb, .int .i64 xa] 24))
                generalize ww12.alloc (.cells #[.int .i64 xb, .int .i64 xa] 24) = W13 at hb13 hx13 hR13 ⊢
                exact (hJ (vv12, _) _ ⟨hb13, hR13, hx13⟩).sub (by kernel_rfl) (by kernel_rfl)
              · skip
                have hev := (hF.ev (x := Operand.tmp 71) (by kernel_rfl)).trans (show _ = .agg #[.int .i64 xb, .int .i64 xa] by kernel_rfl)
                refine value_ hwt rfl (v := .slice (some ⟨W11.heap.size, 0, none⟩) 1 1) (w1 := W11.alloc (.cells #[.int .i64 xb, .int .i64 xa] 24)) (by unfold execOp; simp only [ho]; simp [hev]; go_simp) (hK.out _ _ (below_alloc hb11 _) ?_)
                clear hK K hF hwt ho hod o a hev
                have hb12 : Below W7.heap.size W7 (W11.alloc (.cells #[.int .i64 xb, .int .i64 xa] 24)) := below_alloc hb11 _
                have hx12 := heap_alloc_new W11 (.cells #[.int .i64 xb, .int .i64 xa] 24)
                have hR12 := Kd.R_below hR11 (below_alloc (Below.refl _ _) (.cells #[.int .i64 xb, .int .i64 xa] 24))
                generalize W11.alloc (.cells #[.int .i64 xb, .int .i64 xa] 24) = W12 at hb12 hx12 hR12 ⊢
                refine Rg.raw C 3 66 1023 (Op.call { callee := Callee.builtin Builtin.append, args := #[Operand.tmp 63, Operand.tmp 65], argTypes := #[25, 25] }) (by kernel_rfl) (by kernel_rfl) (fun a hF o ho hod hwt K hK => ?_)
                refine app24 (w0 := W7) W7.heap.size hwt (Operand.tmp 63) (Operand.tmp 65) ho (.slice (some ⟨V0.heap.size, 0, none⟩) 0 0) [] ls (some ad) (n) (c2) ((hF.ev (by kernel_rfl)).trans (by kernel_rfl)) ((hF.ev (by kernel_rfl)).trans (by kernel_rfl)) hR12 (Kd.C_below CY.out hb12) hb12 hb12.size (by simp; omega) (fun vv13 ww13 hR13 hb13 hg13 => ?_)
                rw [List.nil_append] at hR13
                refine hK.out _ _ hb13 ?_
                clear hK K hF hwt ho hod o a
                exact (hJ (vv13, _) _ ⟨hb13, hR13, ((hg13.block _ (blk_lt hx12) (by rw [hs11]; simp [Value.ownBlock])).trans hx12)⟩).sub (by kernel_rfl) (by kernel_rfl)
            · skip
              have hev := (hF.ev (x := Operand.tmp 71) (by kernel_rfl)).trans (show _ = .agg #[.int .i64 xb, .int .i64 xa] by kernel_rfl)
              refine value_ hwt rfl (v := .slice (some ⟨V0.heap.size, 0, none⟩) 1 1) (w1 := V0.alloc (.cells #[.int .i64 xb, .int .i64 xa] 24)) (by unfold execOp; simp only [ho]; simp [hev]; go_simp) (hK.out _ _ (below_alloc hb0 _) ?_)
              clear hK K hF hwt ho hod o a hev
              have hb11 : Below W7.heap.size W7 (V0.alloc (.cells #[.int .i64 xb, .int .i64 xa] 24)) := below_alloc hb0 _
              have hx11 := heap_alloc_new V0 (.cells #[.int .i64 xb, .int .i64 xa] 24)
              generalize V0.alloc (.cells #[.int .i64 xb, .int .i64 xa] 24) = W11 at hb11 hx11 ⊢
              have hlt11 := blk_lt hx11
              refine Rg.raw C 0 63 1015 (Op.buildSlice 25 0 #[]) (by kernel_rfl) (by kernel_rfl) (fun a hF o ho hod hwt K hK => ?_)
              refine value_ hwt rfl (v := .slice (some ⟨W11.heap.size, 0, none⟩) 0 0) (w1 := W11.alloc (.cells #[] 24)) (by unfold execOp; simp only [ho]; go_simp) (hK.out _ _ (below_alloc hb11 _) ?_)
              clear hK K hF hwt ho hod o a
              have hb12 : Below W7.heap.size W7 (W11.alloc (.cells #[] 24)) := below_alloc hb11 _
              have hR12 := R_empty24 W11 W7.heap.size hb11.size
              have hs12 : (W11.alloc (.cells #[] 24)).heap.size = W11.heap.size + 1 := by simp
              have hx12 := (Below.heap_alloc W11 (.cells #[] 24) _ (blk_lt hx11)).trans hx11
              generalize W11.alloc (.cells #[] 24) = W12 at hb12 hR12 hs12 hx12 ⊢
              refine Rg.raw C 3 66 1023 (Op.call { callee := Callee.builtin Builtin.append, args := #[Operand.tmp 63, Operand.tmp 65], argTypes := #[25, 25] }) (by kernel_rfl) (by kernel_rfl) (fun a hF o ho hod hwt K hK => ?_)
              refine app24 (w0 := W7) W7.heap.size hwt (Operand.tmp 63) (Operand.tmp 65) ho (.slice (some ⟨W11.heap.size, 0, none⟩) 0 0) [] ls (some ad) (n) (c2) ((hF.ev (by kernel_rfl)).trans (by kernel_rfl)) ((hF.ev (by kernel_rfl)).trans (by kernel_rfl)) hR12 (Kd.C_below CY.out hb12) hb12 hb12.size (by simp; omega) (fun vv13 ww13 hR13 hb13 hg13 => ?_)
              rw [List.nil_append] at hR13
              refine hK.out _ _ hb13 ?_
              clear hK K hF hwt ho hod o a
              exact (hJ (vv13, _) _ ⟨hb13, hR13, ((hg13.block _ (blk_lt hx12) (by intro e; simp [Value.ownBlock] at e; omega)).trans hx12)⟩).sub (by kernel_rfl) (by kernel_rfl)
        · intro hJ
          refine Rg.duo C 5 60 63 (Op.call { callee := Callee.value (Operand.func 20), args := #[Operand.tmp 57, Operand.const (Value.int IntKind.i64 0), Operand.tmp 59], argTypes := #[3, 3, 3] }) 8 16 287 (Op.alloc 24) (by kernel_rfl) (by kernel_rfl) (by kernel_rfl) (fun a hF o ho hod hwt K hK => ?_) (fun a hF o ho hod hwt K hK => ?_)
          · skip
            have e1 := (hF.ev (x := .func 20) (by kernel_rfl)).trans (show _ = .func (.func 20) #[] #[] by kernel_rfl)
            have e2 := (hF.ev (x := .tmp 57) (by kernel_rfl)).trans (show _ = .int .i64 a_ by kernel_rfl)
            have e3 := (hF.ev (x := .tmp 59) (by kernel_rfl)).trans (show _ = .int .i64 ((n : Int) - 1) by kernel_rfl)
            have e4 := (hF.ev (x := .const (.int .i64 0)) (by kernel_rfl)).trans (show _ = .int .i64 0 by kernel_rfl)
            refine Rg.callK #[] #[.int .i64 a_, .int .i64 0, .int .i64 ((n : Int) - 1)] hwt ho Tryd.func20 (by kernel_rfl) rfl e1 (by simp [e2, e3, e4]) ?_
            refine (WJ.out _).mono ?_
            rintro e w' ⟨rfl, rfl⟩
            refine ⟨_, rfl, hK _ _ hb0 ?_⟩
            clear hK K hF hwt ho hod o a e1 e2 e3 e4
            refine Rg.gen C hS 6 61 127 (.pointer (some (ad.add (j * 2)))) (Op.indexAddr 25 (Operand.tmp 56) (Operand.tmp 60)) [(Operand.tmp 56, .slice (some ad) n c2), (Operand.tmp 60, .int .i64 (j : Int))] (by kernel_rfl) (by kernel_rfl) (by kernel_rfl) (fun o ho ρ h w hS => by have h1 := h _ (.head _); have h2 := h _ (.tail _ (.head _)); simp only at h1 h2; clear h; unfold execOp; simp only [ho, h1, h2]; go_simp) ?_
            refine Rg.gen C hS 7 62 255 (.agg #[.int .i64 xa, .int .i64 xb]) (Op.load 24 (Operand.tmp 61)) [(Operand.tmp 61, .pointer (some (ad.add (j * 2))))] (by kernel_rfl) (by kernel_rfl) (by kernel_rfl) (fun o ho ρ h w hS => by have h1 := h _ (.head _); simp only at h1; clear h; unfold execOp; simp only [ho, h1]; obtain ⟨k0, k1, k2, k3⟩ := LX.out _ hS; go_simp) ?_
            refine Rg.raw C 8 16 511 (Op.alloc 24) (by kernel_rfl) (by kernel_rfl) (fun a hF o ho hod hwt K hK => ?_)
            refine value_ hwt rfl (v := .pointer (some ⟨V0.heap.size, 0, none⟩)) (w1 := V0.alloc (.cells #[.int .i64 0, .int .i64 0] 24)) (by unfold execOp; simp only [ho]; go_simp) (hK.out _ _ (below_alloc hb0 _) ?_)
            clear hK K hF hwt ho hod o a
            exact (hJ _ _ ⟨below_alloc hb0 _, heap_alloc_new V0 (.cells #[.int .i64 0, .int .i64 0] 24), hb0.size⟩).sub (by kernel_rfl) (by kernel_rfl)
          · skip
            refine value_ hwt rfl (v := .pointer (some ⟨V0.heap.size, 0, none⟩)) (w1 := V0.alloc (.cells #[.int .i64 0, .int .i64 0] 24)) (by unfold execOp; simp only [ho]; go_simp) (hK.out _ _ (below_alloc hb0 _) ?_)
            clear hK K hF hwt ho hod o a
            have hx1 := heap_alloc_new V0 (.cells #[.int .i64 0, .int .i64 0] 24)
            have hb1 : Below Wc.heap.size Wc (V0.alloc (.cells #[.int .i64 0, .int .i64 0] 24)) := below_alloc hb0 _
            generalize V0.alloc (.cells #[.int .i64 0, .int .i64 0] 24) = W1 at hx1 hb1 ⊢
            clear hS
            have hS := hb1
            refine Rg.raw C 5 60 319 (Op.call { callee := Callee.value (Operand.func 20), args := #[Operand.tmp 57, Operand.const (Value.int IntKind.i64 0), Operand.tmp 59], argTypes := #[3, 3, 3] }) (by kernel_rfl) (by kernel_rfl) (fun a hF o ho hod hwt K hK => ?_)
            have e1 := (hF.ev (x := .func 20) (by kernel_rfl)).trans (show _ = .func (.func 20) #[] #[] by kernel_rfl)
            have e2 := (hF.ev (x := .tmp 57) (by kernel_rfl)).trans (show _ = .int .i64 a_ by kernel_rfl)
            have e3 := (hF.ev (x := .tmp 59) (by kernel_rfl)).trans (show _ = .int .i64 ((n : Int) - 1) by kernel_rfl)
            have e4 := (hF.ev (x := .const (.int .i64 0)) (by kernel_rfl)).trans (show _ = .int .i64 0 by kernel_rfl)
            refine Rg.callK #[] #[.int .i64 a_, .int .i64 0, .int .i64 ((n : Int) - 1)] hwt ho Tryd.func20 (by kernel_rfl) rfl e1 (by simp [e2, e3, e4]) ?_
            refine (WJ.out _).mono ?_
            rintro e w' ⟨rfl, rfl⟩
            refine ⟨_, rfl, hK _ _ hb1 ?_⟩
            clear hK K hF hwt ho hod o a e1 e2 e3 e4
            refine Rg.gen C hS 6 61 383 (.pointer (some (ad.add (j * 2)))) (Op.indexAddr 25 (Operand.tmp 56) (Operand.tmp 60)) [(Operand.tmp 56, .slice (some ad) n c2), (Operand.tmp 60, .int .i64 (j : Int))] (by kernel_rfl) (by kernel_rfl) (by kernel_rfl) (fun o ho ρ h w hS => by have h1 := h _ (.head _); have h2 := h _ (.tail _ (.head _)); simp only at h1 h2; clear h; unfold execOp; simp only [ho, h1, h2]; go_simp) ?_
            refine Rg.gen C hS 7 62 511 (.agg #[.int .i64 xa, .int .i64 xb]) (Op.load 24 (Operand.tmp 61)) [(Operand.tmp 61, .pointer (some (ad.add (j * 2))))] (by kernel_rfl) (by kernel_rfl) (by kernel_rfl) (fun o ho ρ h w hS => by have h1 := h _ (.head _); simp only at h1; clear h; unfold execOp; simp only [ho, h1]; obtain ⟨k0, k1, k2, k3⟩ := LX.out _ hS; go_simp) ?_
            exact (hJ _ _ ⟨hb1, hx1, hb0.size⟩).sub (by kernel_rfl) (by kernel_rfl)
    · have hg0 := (LDb.out _ HB5.out).1
      have hg1 := (LDb.out _ HB5.out).2.1
      have hfr0 := blk_frozen HX5.out 0
      have hfr1 := blk_frozen HX5.out 1
      have hcl0 : W5.cell? ⟨gb, 0, none⟩ = some (.int .i64 N) := (blk_cell HX5.out 0).trans rfl
      have hcl1 : W5.cell? ⟨gb, 1, none⟩ = some (.slice A3 (n + 1) c3) := (blk_cell HX5.out 1).trans rfl
      clear PUT
      go_upto_region 18 with (fail)
      have hxc : ((W5.setCell ⟨gb, 0, none⟩ (.int .i64 N)).setCell ⟨gb, 1, none⟩ (.slice A n c2)).heap[gb]? = some (.cells #[.int .i64 N, .slice A n c2] 27 (0, 0)) := set_two HX5.out
      have hbc : Below Wb.heap.size Wb ((W5.setCell ⟨gb, 0, none⟩ (.int .i64 N)).setCell ⟨gb, 1, none⟩ (.slice A n c2)) := (HB5.out.setCell HG5.out _).setCell HG5.out _
      generalize (W5.setCell ⟨gb, 0, none⟩ (.int .i64 N)).setCell ⟨gb, 1, none⟩ (.slice A n c2) = Wc at hxc hbc ⊢
      clear hg0 hg1 hfr0 hfr1 hcl0 hcl1
      have hfr0 := blk_frozen hxc 0
      have hcl0 : Wc.cell? ⟨gb, 0, none⟩ = some (.int .i64 N) := (blk_cell hxc 0).trans rfl
      have eN1 : wrap64 (N + 1) = N + 1 := by unfold wrap64; omega
      go_upto_region 19 with (fail)
      have hxz : (Wc.setCell ⟨gb, 0, none⟩ (.int .i64 (N + 1))).heap[gb]? = some (.cells #[.int .i64 (N + 1), .slice A n c2] 27 (0, 0)) := by simpa using blk_set hxc 0 (.int .i64 (N + 1))
      have hbz : Below Wb.heap.size Wb (Wc.setCell ⟨gb, 0, none⟩ (.int .i64 (N + 1))) := hbc.setCell HG5.out _
      generalize Wc.setCell ⟨gb, 0, none⟩ (.int .i64 (N + 1)) = Wz at hxz hbz ⊢
      have HBZ := Aside0.mk hbz
      have HXZ := Aside0.mk hxz
      have HCZ : Aside0 (Kd.C k24 Wz A n ls) := ⟨(LDb.out _ hbz).2.2.1⟩
      have HTZ : Aside0 (Told (N + 1) ls (some (-1))) := ⟨bad_alone HR.out⟩
      have HNZ : Aside0 (n ≤ c2 ∧ n ≤ 1000000 ∧ N + 1 ≤ 1000000) := ⟨HC.out.1, HC.out.2.1, by have := HL.out; omega⟩
      clear hxz hbz hxc hbc hfr0 hcl0
      have hb0 : Wz.cell? ⟨gb, 0, none⟩ = some (.int .i64 (N + 1)) := (blk_cell HXZ.out 0).trans rfl
      have hb1 : Wz.cell? ⟨gb, 1, none⟩ = some (.slice (A) (n) (c2)) := (blk_cell HXZ.out 1).trans rfl
      go_upto_region 20 with ((go_at_call 25; (with_reducible refine (check_at (N + 1) (A) (n) (c2) (ls) _ (-1) HCZ.out HNZ.out.1 HNZ.out.2.1 HNZ.out.2.2 HTZ.out).mono ?_); rintro e w8 ⟨ge, rfl, hE, hb8⟩; have HE8 := Aside0.mk hE; have HB8 := Aside0.mk (below_step HBZ.out hb8); clear hE hb8))
      have hg0 := (LDb.out _ HB8.out).1
      have hg1 := (LDb.out _ HB8.out).2.1
      have HCg := Aside0.mk (LDb.out _ HB8.out).2.2.1
      clear hb0 hb1
      go_wp2_with (first
        | (go_at_call 25; (with_reducible refine (check_nil N (A) n c2 ls _ HCg.out HC.out.1 HR.out).mono ?_); rintro e w9 ⟨rfl, hb⟩; have HB9 := Aside0.mk (below_step HB8.out hb); have HE9 : Aside0 (errOk w9 ge (some (-1))) := ⟨Er.Err.okBelow hb HE8.out⟩; clear hb)
        | (go_at_call 15; (with_reducible refine (kind_e ge (-1) _ (LDb.out _ HB9.out).2.2.2.1 HE9.out).mono ?_); rintro e w10 ⟨rfl, hb⟩; have HB10 := Aside0.mk (below_step HB9.out hb); have HE10 : Aside0 (errOk w10 ge (some (-1))) := ⟨Er.Err.okBelow hb HE9.out⟩; clear hb)
        | (go_at_call 16; (with_reducible refine (place_e ge (-1) _ (LDb.out _ HB10.out).2.2.2.1 HE10.out).mono ?_); rintro e w11 ⟨rfl, hb⟩; have HB11 := Aside0.mk (below_step HB10.out hb); have HE11 : Aside0 (errOk w11 ge (some (-1))) := ⟨Er.Err.okBelow hb HE10.out⟩; clear hb)
        | (go_at_call 35; (with_reducible refine (trace_e ge (-1) _ (LDb.out _ HB11.out).2.2.2.1 HE11.out).mono ?_); rintro e w12 ⟨ta, tc, rfl, htc, hb⟩; have HB12 := Aside0.mk (below_step HB11.out hb); have HT12 := Aside0.mk htc; clear hb htc)
        | (go_at_call 34; (with_reducible refine (same_graph ta ⟨w12.heap.size, 0, none⟩ tc 1 _ (pw_cell_below (below_alloc (Below.refl _ _) _) HT12.out) ((blk_cell (heap_alloc_new w12 _) 0).trans rfl)).mono ?_); rintro e w13 ⟨rfl, hb⟩; have HB13 := Aside0.mk (below_step (below_alloc HB12.out _) hb); clear hb)
        | (go_at_call 6; (with_reducible refine (runs_calls _ (LDb.out _ HB13.out).2.2.2.1).mono ?_); rintro e w14 ⟨rfl, hb⟩; have HB14 := Aside0.mk (below_step HB13.out hb); clear hb))
      go_ret
      exact ⟨rfl, below_step HBb.out HB14.out⟩
  · intro hJ
    refine Rg.duo C 4 36 63 (Op.call { callee := Callee.value (Operand.tmp 32), args := #[Operand.tmp 35], argTypes := #[24] }) 6 14 111 (Op.alloc 27) (by kernel_rfl) (by kernel_rfl) (by kernel_rfl) (fun a hF o ho hod hwt K hK => ?_) (fun a hF o ho hod hwt K hK => ?_)
    · skip
      have e1 := (hF.ev (x := .tmp 32) (by kernel_rfl)).trans (show _ = .func (.func 33) #[] #[.pointer (some ⟨g, 0, none⟩), .pointer (some ⟨ib, 0, none⟩)] by kernel_rfl)
      have e2 := (hF.ev (x := .tmp 35) (by kernel_rfl)).trans (show _ = .agg #[.int .i64 v, .int .i64 v] by kernel_rfl)
      refine Rg.callK #[.pointer (some ⟨g, 0, none⟩), .pointer (some ⟨ib, 0, none⟩)] #[.agg #[.int .i64 v, .int .i64 v]] hwt ho Tryd.func33 (by kernel_rfl) rfl e1 (by simp [e2]) ?_
      refine (PUT.out V0 hb0 v v).mono ?_
      rintro e w3 ⟨A3, c3, rfl, hR3, hc3, hbn3⟩
      have hb3 := below_step hb0 hbn3
      refine ⟨_, rfl, hK _ _ hb3 ?_⟩
      clear hK K hF hwt ho hod o a e1 e2
      refine Rg.raw C 6 14 127 (Op.alloc 27) (by kernel_rfl) (by kernel_rfl) (fun a hF o ho hod hwt K hK => ?_)
      refine value_ hwt rfl (v := .pointer (some ⟨w3.heap.size, 0, none⟩)) (w1 := w3.alloc (.cells #[.int .i64 0, .slice none 0 0] 27)) (by unfold execOp; simp only [ho]; go_simp) (hK.out _ _ (below_alloc hb3 _) ?_)
      clear hK K hF hwt ho hod o a
      exact (hJ (A3, c3, _) _ ⟨below_alloc hb3 _, Kd.R_lower (Kd.R_below hR3 (below_alloc (Below.refl _ _) _)) (Nat.zero_le _), hc3, heap_alloc_new w3 (.cells #[.int .i64 0, .slice none 0 0] 27), hb3.size⟩).sub (by kernel_rfl) (by kernel_rfl)
    · skip
      refine value_ hwt rfl (v := .pointer (some ⟨V0.heap.size, 0, none⟩)) (w1 := V0.alloc (.cells #[.int .i64 0, .slice none 0 0] 27)) (by unfold execOp; simp only [ho]; go_simp) (hK.out _ _ (below_alloc hb0 _) ?_)
      clear hK K hF hwt ho hod o a
      have hx1 := heap_alloc_new V0 (.cells #[.int .i64 0, .slice none 0 0] 27)
      have hb1 : Below Wb.heap.size Wb (V0.alloc (.cells #[.int .i64 0, .slice none 0 0] 27)) := below_alloc hb0 _
      generalize V0.alloc (.cells #[.int .i64 0, .slice none 0 0] 27) = W1 at hx1 hb1 ⊢
      refine Rg.raw C 4 36 127 (Op.call { callee := Callee.value (Operand.tmp 32), args := #[Operand.tmp 35], argTypes := #[24] }) (by kernel_rfl) (by kernel_rfl) (fun a hF o ho hod hwt K hK => ?_)
      have e1 := (hF.ev (x := .tmp 32) (by kernel_rfl)).trans (show _ = .func (.func 33) #[] #[.pointer (some ⟨g, 0, none⟩), .pointer (some ⟨ib, 0, none⟩)] by kernel_rfl)
      have e2 := (hF.ev (x := .tmp 35) (by kernel_rfl)).trans (show _ = .agg #[.int .i64 v, .int .i64 v] by kernel_rfl)
      refine Rg.callK #[.pointer (some ⟨g, 0, none⟩), .pointer (some ⟨ib, 0, none⟩)] #[.agg #[.int .i64 v, .int .i64 v]] hwt ho Tryd.func33 (by kernel_rfl) rfl e1 (by simp [e2]) ?_
      refine (PUT.out W1 hb1 v v).mono ?_
      rintro e w3 ⟨A3, c3, rfl, hR3, hc3, hbn3⟩
      have hb3 := below_step hb1 hbn3
      refine ⟨_, rfl, hK _ _ hb3 ?_⟩
      clear hK K hF hwt ho hod o a e1 e2
      exact (hJ (A3, c3, _) _ ⟨hb3, Kd.R_lower hR3 (Nat.zero_le _), hc3, (hbn3.block _ (blk_lt hx1)).trans hx1, hb0.size⟩).sub (by kernel_rfl) (by kernel_rfl)
end Go.Proofs.YtfkkefhijhjaaaaDoor.Gr
