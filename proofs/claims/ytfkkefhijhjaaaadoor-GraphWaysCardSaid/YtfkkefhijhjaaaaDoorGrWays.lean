import Derived.Test.YtfkkefhijhjaaaaDoorGrQ
import Derived.Test.YtfkkefhijhjaaaaDoorRg
import Derived.IntWalk
namespace Go.Proofs.YtfkkefhijhjaaaaDoor.Gr
open Go.RowKit Go.Proofs.YtfkkefhijhjaaaaDoorW.PrintWords Go.Proofs.YtfkkefhijhjaaaaDoorW.PrintLast Go.Proofs.YtfkkefhijhjaaaaDoorW.PrintMore
set_option linter.unusedVariables false
set_option linter.unusedSimpArgs false
noncomputable def wayR : Array Oper := opsOf Tryd.f8 11
noncomputable def wayRt : List Rg.Ent := [⟨0, 0, some 69, none, Op.load 27 (Operand.tmp 5)⟩,
  ⟨0, 0, some 70, none, Op.indexAddr 24 (Operand.tmp 10) (Operand.const (Value.int IntKind.i64 0))⟩,
  ⟨2, 2, some 71, none, Op.load 3 (Operand.tmp 70)⟩,
  ⟨0, 0, some 72, none, Op.move (Operand.tmp 8)⟩,
  ⟨13, 13, some 73, none, Op.call { callee := Callee.value (Operand.func 28), args := #[Operand.tmp 69, Operand.tmp 71, Operand.tmp 72], argTypes := #[27, 3, 3] }⟩,
  ⟨0, 0, some 74, none, Op.load 27 (Operand.tmp 5)⟩,
  ⟨0, 0, some 75, none, Op.indexAddr 24 (Operand.tmp 10) (Operand.const (Value.int IntKind.i64 1))⟩,
  ⟨64, 64, some 76, none, Op.load 3 (Operand.tmp 75)⟩,
  ⟨0, 0, some 77, none, Op.move (Operand.tmp 8)⟩,
  ⟨432, 416, some 78, none, Op.call { callee := Callee.value (Operand.func 28), args := #[Operand.tmp 74, Operand.tmp 76, Operand.tmp 77], argTypes := #[27, 3, 3] }⟩,
  ⟨543, 16, some 11, none, Op.assign (Operand.tmp 73)⟩,
  ⟨2047, 512, some 12, none, Op.assign (Operand.tmp 78)⟩]
theorem wayRT : Rg.Tabd .any wayR 12 wayRt := ⟨by kernel_rfl, by kernel_rfl, by kernel_rfl⟩
theorem rise_not {l : List (Int × Int)} (h : l.Pairwise lexlt) {i : Nat} {x : Int × Int} (hx : l[i]? = some x) : x ∉ l.take i := by
  intro hm
  obtain ⟨j, hj, e⟩ := List.mem_take_iff_getElem.mp hm
  obtain ⟨hi, rfl⟩ := List.getElem?_eq_some_iff.mp hx
  have := List.pairwise_iff_getElem.mp h j i (by omega) hi (by omega)
  rw [e] at this
  exact lexlt_asym _ _ this this
theorem rise_prev {l : List (Int × Int)} (h : l.Pairwise lexlt) {j : Nat} {x y : Int × Int} (hy : l[j]? = some y) (hx : l[j + 1]? = some x) : lexlt y x := by
  obtain ⟨hj, rfl⟩ := List.getElem?_eq_some_iff.mp hy
  obtain ⟨hi, rfl⟩ := List.getElem?_eq_some_iff.mp hx
  exact List.pairwise_iff_getElem.mp h j (j + 1) hj hi (by omega)
set_option maxHeartbeats 8000000 in
set_option maxRecDepth 100000 in
theorem Ways.walk (B : Int) (AU AM : Option Addr) (cU cM : Nat) (us ms : List Int) (p : Int) (w : World) (HTYP : Aside0 (Er.Typ w)) (hu : Kd.C (Kd.int .i64) w AU us.length us) (hm : Kd.C (Kd.int .i64) w AM ms.length ms) :
    Calls Tryd.prog 8 #[.agg #[.int .i64 B, .slice AU us.length cU, .slice AM ms.length cM], .int .i64 p] w fun e w' => e = .returned (.bool true) ∧ Below w.heap.size w w' := by
  have hmm := @run_makeMap Tryd.prog
  have FU := Aside0.mk hu
  have FM := Aside0.mk hm
  clear hu hm
  go_enter Tryd.func8, Tryd.ntmps8
  go_upto_region 2 with ((go_at_call 18; (with_reducible refine (graph_calls B AU AM cU cM us ms _ (Kd.C_alloc FU.out _) (Kd.C_alloc FM.out _)).mono ?_); rintro e w2 ⟨N, ls, A, c2, rfl, hR, hN, hl, hC, hc, hB⟩; obtain ⟨n, hn⟩ : ∃ n, ls.length = n := ⟨_, rfl⟩; rw [hn] at hl hC hc ⊢; have HR := Aside0.mk hR; have HN := Aside0.mk hN; have HCC := Aside0.mk (And.intro hC (And.intro hc (And.intro hl hn))); have HB := Aside0.mk hB; clear hR hN hl hC hc hB hn))
  have hL : (w2.alloc (Obj.cells #[.int .i64 N, .slice A n c2] 27)).heap[w2.heap.size]? = some (.cells #[.int .i64 N, .slice A n c2] 27 (0, 0)) := heap_alloc_new w2 _
  have hBW : Below w.heap.size w (w2.alloc (Obj.cells #[.int .i64 N, .slice A n c2] 27)) := below_alloc (below_step (below_alloc (Below.refl _ _) _) HB.out) _
  have hCW : Kd.C k24 (w2.alloc (Obj.cells #[.int .i64 N, .slice A n c2] 27)) A n ls := Kd.C_alloc HCC.out.1 _
  generalize w2.alloc (Obj.cells #[.int .i64 N, .slice A n c2] 27) = W at hL hBW hCW ⊢
  generalize w2.heap.size = g at hL ⊢
  have HBW := Aside0.mk hBW
  have LD : Aside0 (∀ w', Below W.heap.size W w' → w'.cell? ⟨g, 0, none⟩ = some (.int .i64 N) ∧ w'.cell? ⟨g, 1, none⟩ = some (.slice A n c2) ∧ Kd.C k24 w' A n ls ∧ Er.Typ w') :=
    ⟨fun w' h => ⟨(h.cell (blk_lt hL)).trans ((blk_cell hL 0).trans rfl), (h.cell (blk_lt hL)).trans ((blk_cell hL 1).trans rfl), Kd.C_below hCW h, (HTYP.out.below hBW).below h⟩⟩
  have HC : Aside0 (n ≤ c2 ∧ n ≤ 1000000 ∧ N ≤ 1000000) := ⟨by have := HCC.out; have := HN.out; omega⟩
  have HL : Aside0 (n ≤ 1000 ∧ 0 ≤ N ∧ N ≤ 100) := ⟨by have := HCC.out; have := HN.out; omega⟩
  have HLN : Aside0 (ls.length = n ∧ n ≤ 15) := ⟨HCC.out.2.2.2, HCC.out.2.2.1⟩
  clear HCC HB hL hBW hCW
  have hN1 : 1 ≤ N := HN.out.1
  have hN7 : N ≤ 7 := HN.out.2
  have hg0 := (LD.out W (Below.refl _ _)).1
  have hg1 := (LD.out W (Below.refl _ _)).2.1
  go_upto_region 3 with ((go_at_call 19; (with_reducible refine (ways_at N A n c2 ls _ (LD.out W (Below.refl _ _)).2.2.1 HC.out.1 HR.out).mono ?_); rintro e w3 ⟨l, A5, c5, rfl, hW, hO, hb⟩; obtain ⟨m, hm⟩ : ∃ m, l.length = m := ⟨_, rfl⟩; rw [hm] at hO ⊢; have HW := Aside0.mk (And.intro hW hm); have HO := Aside0.mk hO; have HB3 := Aside0.mk hb; clear hW hm hO hb))
  have LD2 : Aside0 (∀ w', Below w3.heap.size w3 w' → w'.cell? ⟨g, 0, none⟩ = some (.int .i64 N) ∧ w'.cell? ⟨g, 1, none⟩ = some (.slice A n c2) ∧ Kd.C k24 w' A n ls ∧ Er.Typ w' ∧ Kd.C k24 w' A5 m l) :=
    ⟨fun w' h => by
      obtain ⟨a1, a2, a3, a4⟩ := LD.out w' (below_step HB3.out h)
      exact ⟨a1, a2, a3, a4, Kd.C_below (by have := (Kd.R_reads' HO.out).2.2; rw [HW.out.2] at this; exact this) h⟩⟩
  have HBW3 := Aside0.mk (below_step HBW.out HB3.out)
  have HCM : Aside0 (m ≤ c5 ∧ m = 2 * n ∧ m ≤ 30) := ⟨(Kd.R_reads' HO.out).2.1, by
    have h1 := HW.out.1.len HR.out.ok HR.out.once
    have h2 := HLN.out
    have h3 := HW.out.2
    omega⟩
  clear hg0 hg1 HB3 HO
  have hg0 := (LD2.out (w3.alloc (Obj.map #[] 0)) (below_alloc (Below.refl _ _) _)).1
  have eN : IntKind.i64.wrap (N - 1) = N - 1 := IntWalk.i64_in _ (by omega)
  go_wp2_with ((go_at_call 20; (with_reducible refine (within_val p 0 (N - 1) _ (by omega) (by omega) (by omega)).mono ?_); rintro e w' ⟨rfl, rfl⟩))
  have hto := wi_rng p (lo := 0) (hi := N - 1) (by omega)
  generalize wi p 0 (N - 1) = tt at hto ⊢
  have HTO : Aside0 (0 ≤ tt ∧ tt < N) := ⟨by omega⟩
  have hM0 : Fm.M S70 (w3.alloc (Obj.map #[] 0)) w3.heap.size 0 (inF (l.take 0)) := by
    have e0 : inF (l.take 0) = fun _ => none := by funext y; unfold inF; rw [if_neg (by simp)]
    rw [e0]
    exact Fm.M.new w3
  have HM0 := Aside0.mk hM0
  clear hg0 hto hM0 hmm eN
  go_loopg [27] m (fun q s27 wr => ∃ i : Nat, s27 = .int .i64 (i : Int) ∧ Aside0 (q + i = m) ∧ Aside0 (Fm.M S70 wr w3.heap.size i (inF (l.take i))) ∧ Aside0 (Below w3.heap.size w3 wr))
  case atStart => exact ⟨0, rfl, ⟨by omega⟩, HM0, ⟨below_alloc (Below.refl _ _) _⟩⟩
  case round =>
    clear HM0
    obtain ⟨i, rfl, HQ, HM, HB⟩ := hrel
    obtain ⟨c0, c1, cC, cT, cl⟩ := LD2.out wr HB.out
    have HCl := Aside0.mk cl
    clear cC cT cl
    by_cases hlt : i < m
    · obtain ⟨⟨xa, xb⟩, hx⟩ : ∃ x, l[i]? = some x := ⟨_, List.getElem?_eq_getElem (by rw [HW.out.2]; exact hlt)⟩
      have hadj : Adj N ls xa xb := (HW.out.1.2 (xa, xb)).mp (List.mem_of_getElem? hx)
      obtain ⟨ad, ea, hx0, hx1⟩ := at24n HCl.out hx
      cases ea
      have hi6 : (i : Int) + 1 ≤ 1000000 := by have := HCM.out; omega
      have HX := Aside0.mk (And.intro hx hadj)
      clear hx hadj
      go_upto_region 8 with (fail)
      have hA := below_alloc (Below.refl wr.heap.size wr) (Obj.cells #[.int .i64 xa, .int .i64 xb] 24)
      have hL : (wr.alloc (Obj.cells #[.int .i64 xa, .int .i64 xb] 24)).heap[wr.heap.size]? = some (.cells #[.int .i64 xa, .int .i64 xb] 24 (0, 0)) := heap_alloc_new wr _
      generalize wr.alloc (Obj.cells #[.int .i64 xa, .int .i64 xb] 24) = w1 at hA hL ⊢
      have hrg := HX.out.2.rng
      have hokx : S70.ok (xa, xb) := ⟨Fm.wf_int (by omega) (by omega), Fm.wf_int (by omega) (by omega)⟩
      obtain ⟨w4, hput, hM4, ht4⟩ := (HM.out.below hA).store hokx (.bool true) (by unfold maxLen; have := HCM.out; omega)
      rw [inF_not (rise_not HW.out.1.1 HX.out.1), inF_snoc, ← take_one HX.out.1] at hM4
      replace hput : Sem.run Tryd.prog (Instr.mapUpdate 70 (Value.map (some w3.heap.size)) (Value.agg #[.int .i64 xa, .int .i64 xb]) (.bool true)) w1 = .ok () w4 := hput
      have hsz : w3.heap.size ≤ wr.heap.size := HB.out.size
      have hB4 : Below w3.heap.size w3 w4 := Fm.turned_below (below_step HB.out hA) ht4 (Nat.le_refl _) (by have := hA.size; omega)
      have hL4 := (Fm.turned_block ht4 (fun e => (HM.out.below hA).ne_cells hL e.symm)).trans hL
      have hl0 : w1.cell? ⟨wr.heap.size, 0, none⟩ = some (.int .i64 xa) := (blk_cell hL 0).trans rfl
      have hl1 : w1.cell? ⟨wr.heap.size, 1, none⟩ = some (.int .i64 xb) := (blk_cell hL 1).trans rfl
      have HM4 := Aside0.mk hM4
      have HB4 := Aside0.mk hB4
      have HL4 := Aside0.mk hL4
      clear hM4 ht4 hB4 hL4 hokx hA hL c0 c1 hx0 hx1
      go_upto_region 9 with (fail)
      clear hl0 hl1 hput
      have hl0 : w4.cell? ⟨wr.heap.size, 0, none⟩ = some (.int .i64 xa) := (blk_cell HL4.out 0).trans rfl
      have hl1 : w4.cell? ⟨wr.heap.size, 1, none⟩ = some (.int .i64 xb) := (blk_cell HL4.out 1).trans rfl
      go_cut [68] (fun s68 wq => s68 = .bool false ∧ Aside0 (∃ q, wq = w4.drewN q))
      case first =>
        rcases Nat.eq_zero_or_pos i with h0 | h0
        · subst h0
          go_quiet (fail)
          go_wp2_with fail
          go_meet
          exact ⟨rfl, ⟨_, rfl⟩⟩
        · obtain ⟨j, rfl⟩ : ∃ j, i = j + 1 := ⟨i - 1, by omega⟩
          rw [show ((j + 1 : Nat) : Int) = (j : Int) + 1 from rfl]
          have hj0 : (0 : Int) ≤ (j : Int) + 1 := by omega
          have hj1 : (0 : Int) < (j : Int) + 1 := by omega
          have hj2 : (j : Int) + 1 ≤ 1000000 := by omega
          have d0 : decide ((0 : Int) < (j : Int) + 1) = true := decide_eq_true hj1
          obtain ⟨⟨ya, yb⟩, hy⟩ : ∃ x, l[j]? = some x := ⟨_, List.getElem?_eq_getElem (by rw [HW.out.2]; omega)⟩
          obtain ⟨_, _, _, _, cl4⟩ := LD2.out w4 HB4.out
          obtain ⟨ad2, ea2, hy0, hy1⟩ := at24n cl4 hy
          cases ea2
          have hlt2 := rise_prev HW.out.1.1 hy HX.out.1
          have hjm : j < m := by omega
          have hjm2 : (j : Int) < (m : Int) := by omega
          clear hy cl4
          go_outline
          by_cases h1 : ya < xa
          · have d1 : decide (xa < ya) = false := decide_eq_false (by omega)
            have d2 : (ya == xa) = false := by simp; omega
            go_quiet (fail)
            go_wp2_with fail
            go_meet
            exact ⟨rfl, ⟨_, rfl⟩⟩
          · have h2 : ya = xa ∧ yb < xb := by unfold lexlt at hlt2; simp only at hlt2; omega
            obtain ⟨rfl, h3⟩ := h2
            have d1 : decide (ya < ya) = false := decide_eq_false (by omega)
            have d2 : (ya == ya) = true := by simp
            have d3 : decide (xb ≤ yb) = false := decide_eq_false (by omega)
            go_quiet (fail)
            go_wp2_with fail
            go_meet
            exact ⟨rfl, ⟨_, rfl⟩⟩
      case rest =>
        obtain ⟨rfl, HQ4⟩ := hcut
        have LX : Aside0 (∀ w', Below w4.heap.size w4 w' → w'.cell? ⟨g, 0, none⟩ = some (.int .i64 N) ∧ w'.cell? ⟨g, 1, none⟩ = some (.slice A n c2) ∧ Kd.C k24 w' A n ls ∧ w'.cell? ⟨wr.heap.size, 0, none⟩ = some (.int .i64 xa) ∧ w'.cell? ⟨wr.heap.size, 1, none⟩ = some (.int .i64 xb)) :=
          ⟨fun w' h => by
            obtain ⟨a1, a2, a3, _, _⟩ := LD2.out w' (HB4.out.trans (h.mono (HB4.out.size)))
            exact ⟨a1, a2, a3, (h.cell (blk_lt HL4.out)).trans ((blk_cell HL4.out 0).trans rfl), (h.cell (blk_lt HL4.out)).trans ((blk_cell HL4.out 1).trans rfl)⟩⟩
        have S0 : Aside0 (Below w4.heap.size w4 wc) := ⟨by obtain ⟨q, hq⟩ := HQ4.out; rw [hq]; exact pw_below_drewN (Below.refl _ _) q⟩
        have HXA : Aside0 (0 ≤ xa ∧ xa < N) := ⟨by omega⟩
        have HXB : Aside0 (0 ≤ xb ∧ xb < N) := ⟨by omega⟩
        clear hl0 hl1
        go_upto_region 11 with (fail)
        refine Rg.start wayR (fun w' => Below w4.heap.size w4 w') 146 12 603872613996955881707520 [(5, .pointer (some ⟨g, 0, none⟩)), (8, .int .i64 tt), (10, .pointer (some ⟨wr.heap.size, 0, none⟩))] wayRt (by kernel_rfl) (by kernel_rfl) wayRT (by decide) (fun c a a' w e h => ⟨e ▸ h.1, h.2⟩) (by kernel_rfl) ⟨rfl, rfl, rfl, trivial⟩ (below_drew S0.out) (fun Q' C HE hS => ?_)
        refine Rg.gen C hS 0 69 1 (.agg #[.int .i64 N, .slice A n c2]) (Op.load 27 (Operand.tmp 5)) [(Operand.tmp 5, .pointer (some ⟨g, 0, none⟩))] (by kernel_rfl) (by kernel_rfl) (by kernel_rfl) (fun o ho ρ h w hS => by have h1 := h _ (.head _); simp only at h1; clear h; unfold execOp; simp only [ho, h1]; obtain ⟨c0, c1, _, c3, c4⟩ := LX.out _ hS; go_simp) ?_
        refine Rg.gen C hS 1 70 3 (.pointer (some ⟨wr.heap.size, 0, none⟩)) (Op.indexAddr 24 (Operand.tmp 10) (Operand.const (Value.int IntKind.i64 0))) [(Operand.tmp 10, .pointer (some ⟨wr.heap.size, 0, none⟩)), (Operand.const (Value.int IntKind.i64 0), Value.int IntKind.i64 0)] (by kernel_rfl) (by kernel_rfl) (by kernel_rfl) (fun o ho ρ h w hS => by have h1 := h _ (.head _); have h2 := h _ (.tail _ (.head _)); simp only at h1 h2; clear h; unfold execOp; simp only [ho, h1, h2]; go_simp) ?_
        refine Rg.gen C hS 2 71 7 (.int .i64 xa) (Op.load 3 (Operand.tmp 70)) [(Operand.tmp 70, .pointer (some ⟨wr.heap.size, 0, none⟩))] (by kernel_rfl) (by kernel_rfl) (by kernel_rfl) (fun o ho ρ h w hS => by have h1 := h _ (.head _); simp only at h1; clear h; unfold execOp; simp only [ho, h1]; obtain ⟨c0, c1, _, c3, c4⟩ := LX.out _ hS; go_simp) ?_
        refine Rg.move C 3 72 15 (.int .i64 tt) (by kernel_rfl) (by kernel_rfl) ?_
        refine Rg.gen C hS 5 74 47 (.agg #[.int .i64 N, .slice A n c2]) (Op.load 27 (Operand.tmp 5)) [(Operand.tmp 5, .pointer (some ⟨g, 0, none⟩))] (by kernel_rfl) (by kernel_rfl) (by kernel_rfl) (fun o ho ρ h w hS => by have h1 := h _ (.head _); simp only at h1; clear h; unfold execOp; simp only [ho, h1]; obtain ⟨c0, c1, _, c3, c4⟩ := LX.out _ hS; go_simp) ?_
        refine Rg.gen C hS 6 75 111 (.pointer (some ⟨wr.heap.size, 1, none⟩)) (Op.indexAddr 24 (Operand.tmp 10) (Operand.const (Value.int IntKind.i64 1))) [(Operand.tmp 10, .pointer (some ⟨wr.heap.size, 0, none⟩)), (Operand.const (Value.int IntKind.i64 1), Value.int IntKind.i64 1)] (by kernel_rfl) (by kernel_rfl) (by kernel_rfl) (fun o ho ρ h w hS => by have h1 := h _ (.head _); have h2 := h _ (.tail _ (.head _)); simp only at h1 h2; clear h; unfold execOp; simp only [ho, h1, h2]; go_simp) ?_
        refine Rg.gen C hS 7 76 239 (.int .i64 xb) (Op.load 3 (Operand.tmp 75)) [(Operand.tmp 75, .pointer (some ⟨wr.heap.size, 1, none⟩))] (by kernel_rfl) (by kernel_rfl) (by kernel_rfl) (fun o ho ρ h w hS => by have h1 := h _ (.head _); simp only at h1; clear h; unfold execOp; simp only [ho, h1]; obtain ⟨c0, c1, _, c3, c4⟩ := LX.out _ hS; go_simp) ?_
        refine Rg.move C 8 77 495 (.int .i64 tt) (by kernel_rfl) (by kernel_rfl) ?_
        refine Rg.call C 4 73 511 #[.agg #[.int .i64 N, .slice A n c2], .int .i64 xa, .int .i64 tt] (by kernel_rfl) Tryd.func28 (by kernel_rfl) rfl (by kernel_rfl) ?_
        refine (far_at N xa tt A n c2 ls _ (LX.out _ hS).2.2.1 HC.out.1 HC.out.2.1 HC.out.2.2).mono ?_
        rintro e w' ⟨r1, rfl, hF, hb⟩
        have HD1 := Aside0.mk hF
        clear hF
        have hSn := below_step hS hb
        clear hS hb
        have hS := hSn
        clear hSn
        refine ⟨_, rfl, hS, ?_⟩
        refine Rg.call C 9 78 1023 #[.agg #[.int .i64 N, .slice A n c2], .int .i64 xb, .int .i64 tt] (by kernel_rfl) Tryd.func28 (by kernel_rfl) rfl (by kernel_rfl) ?_
        refine (far_at N xb tt A n c2 ls _ (LX.out _ hS).2.2.1 HC.out.1 HC.out.2.1 HC.out.2.2).mono ?_
        rintro e w' ⟨r2, rfl, hF, hb⟩
        have HD2 := Aside0.mk hF
        clear hF
        have hSn := below_step hS hb
        clear hS hb
        have hS := hSn
        clear hSn
        refine ⟨_, rfl, hS, ?_⟩
        refine Rg.move C 10 11 2047 (.int .i64 r1) (by kernel_rfl) (by kernel_rfl) ?_
        refine Rg.move C 11 12 4095 (.int .i64 r2) (by kernel_rfl) (by kernel_rfl) ?_
        refine Rg.done_set C [(11, some (.int .i64 r1)), (12, some (.int .i64 r2)), (69, none), (70, none), (71, none), (72, none), (73, none), (74, none), (75, none), (76, none), (77, none), (78, none)] (by kernel_rfl) (by kernel_rfl) (by kernel_rfl) (by kernel_rfl) (by kernel_rfl) (fun u => HE.out _ _ ?_)
        simp only [Rg.sets, List.map_cons, List.map_nil, Option.getD_some, Option.getD_none, List.foldl_cons, List.foldl_nil]
        simp only [List.set_cons_succ, List.set_cons_zero]
        have HF1 := Aside0.mk (far_nat HR.out HXA.out HTO.out HD1.out)
        have HF2 := Aside0.mk (far_nat HR.out HXB.out HTO.out HD2.out)
        have hstep := step_law HR.out HX.out.2 HTO.out HD1.out HD2.out
        have h1 := HF1.out
        have h2 := HF2.out
        have q1 : decide (r1 < 0) = false := decide_eq_false (by omega)
        have q2 : decide (r2 < 0) = false := decide_eq_false (by omega)
        have q3 : decide (1 < r1 - r2) = false := decide_eq_false (by omega)
        have q4 : decide (1 < r2 - r1) = false := decide_eq_false (by omega)
        have e3 : wrap64 (r1 - r2) = r1 - r2 := by unfold wrap64; omega
        have e4 : wrap64 (r2 - r1) = r2 - r1 := by unfold wrap64; omega
        have HS := Aside0.mk hS
        obtain ⟨a1, a2, a3, a4, a5⟩ := LX.out _ HS.out
        have HC3 := Aside0.mk a3
        clear a3 h1 h2 hstep hS C HE hrg
        go_wp2_with ((go_at_call 30; (with_reducible refine (linked_at N xa xb A n c2 ls _ true HC3.out HC.out.1 HL.out.1 HL.out.2 ⟨fun _ => HX.out.2, fun _ => rfl⟩).mono ?_); rintro e w7 ⟨rfl, hb7⟩; have HB7 := Aside0.mk (below_step HS.out hb7); clear hb7))
        go_roundg (gk - 1)
        case measure => have := HQ.out; omega
        case rel =>
          refine ⟨i + 1, by go_num, ⟨by have := HQ.out; omega⟩, ⟨?_⟩, ⟨HB4.out.trans (HB7.out.mono HB4.out.size)⟩⟩
          have h := HM4.out.below HB7.out
          simpa using h
    · obtain rfl : i = m := by have := HQ.out; omega
      have hM := HM.out
      rw [show l.take i = l by rw [← HW.out.2, List.take_length]] at hM
      have HM2 := Aside0.mk hM
      clear hM hlt HQ HM
      go_wp2_with fail
      clear c0 c1
      obtain ⟨wo, rfl⟩ : ∃ wo : World, wo = wr := ⟨_, rfl⟩
      go_loopg [110] n (fun q s110 wr => ∃ j : Nat, s110 = .int .i64 (j : Int) ∧ Aside0 (q + j = n) ∧ Aside0 (Below wo.heap.size wo wr))
      case atStart => exact ⟨0, rfl, ⟨by omega⟩, ⟨Below.refl _ _⟩⟩
      case round =>
        obtain ⟨j, rfl, HQ, HB2⟩ := hrel
        have HBA := Aside0.mk (HB.out.trans (HB2.out.mono HB.out.size))
        obtain ⟨c0, c1, cC, cT, cl⟩ := LD2.out wr HBA.out
        have HCC := Aside0.mk cC
        have HTT := Aside0.mk cT
        clear cC cT cl
        by_cases hlt : j < n
        · obtain ⟨⟨xa, xb⟩, hx⟩ : ∃ x, ls[j]? = some x := ⟨_, List.getElem?_eq_getElem (by rw [HLN.out.1]; exact hlt)⟩
          have hok := HR.out.ok _ (List.mem_of_getElem? hx)
          have hadj : Adj N ls xa xb := ⟨_, List.mem_of_getElem? hx, hok, Or.inl rfl⟩
          obtain ⟨ad, ea, hx0, hx1⟩ := at24n HCC.out hx
          cases ea
          have hj6 : (j : Int) + 1 ≤ 1000000 := by have := HLN.out; omega
          have hrg := hadj.rng
          have hok1 : S70.ok (xa, xb) := ⟨Fm.wf_int (by omega) (by omega), Fm.wf_int (by omega) (by omega)⟩
          have hM1 := HM2.out.below (HB2.out.trans ((below_alloc (Below.refl wr.heap.size wr) (Obj.cells #[.int .i64 xa, .int .i64 xb] 24)).mono HB2.out.size))
          have hlk1 := hM1.look hok1
          have hlk2 := hM1.look (x := (xb, xa)) ⟨hok1.2, hok1.1⟩
          rw [inF_mem ((HW.out.1.2 (xa, xb)).mpr hadj)] at hlk1
          rw [inF_mem ((HW.out.1.2 (xb, xa)).mpr hadj.symm)] at hlk2
          replace hlk1 : Sem.run Tryd.prog (Instr.lookup 70 (Value.map (some w3.heap.size)) (Value.agg #[.int .i64 xa, .int .i64 xb]) false) (wr.alloc (Obj.cells #[.int .i64 xa, .int .i64 xb] 24)) = .ok (.bool true) (wr.alloc (Obj.cells #[.int .i64 xa, .int .i64 xb] 24)) := hlk1
          replace hlk2 : Sem.run Tryd.prog (Instr.lookup 70 (Value.map (some w3.heap.size)) (Value.agg #[.int .i64 xb, .int .i64 xa]) false) (wr.alloc (Obj.cells #[.int .i64 xa, .int .i64 xb] 24)) = .ok (.bool true) (wr.alloc (Obj.cells #[.int .i64 xa, .int .i64 xb] 24)) := hlk2
          clear hx hok hadj hrg hok1 hM1
          go_wp2_with fail
          go_roundg (gk - 1)
          case measure => have := HQ.out; omega
          case rel => exact ⟨j + 1, by go_num, ⟨by have := HQ.out; omega⟩, ⟨HB2.out.alloc HB2.out.size _⟩⟩
        · obtain rfl : j = n := by have := HQ.out; omega
          have hm2 := HCM.out.2.1
          have hm3 := HCM.out.2.2
          have e1 : wrap64 (2 * (j : Int)) = 2 * (j : Int) := by unfold wrap64; omega
          have e2 : ((i : Int) == 2 * (j : Int)) = true := by rw [hm2]; simp
          clear hm2 hm3
          go_wp2_with (first
            | (go_at_call 28; (with_reducible refine (far_at N tt tt A j c2 ls _ HCC.out HC.out.1 HC.out.2.1 HC.out.2.2).mono ?_); rintro e w8 ⟨r, rfl, hF, hb8⟩; obtain rfl := (far_zero HR.out HTO.out HTO.out hF).mpr rfl; have HB8 := Aside0.mk hb8; clear hF hb8)
            | (go_at_call 6; (with_reducible refine (runs_calls _ (HTT.out.below HB8.out)).mono ?_); rintro e w9 ⟨rfl, hb9⟩; have HB9 := Aside0.mk (below_step HB8.out hb9); clear hb9))
          go_ret
          exact ⟨rfl, below_step (below_step HBW3.out HBA.out) HB9.out⟩
end Go.Proofs.YtfkkefhijhjaaaaDoor.Gr
