import Derived.Test.YtfkkefhijhjaaaaDoorGrE
import Derived.Test.YtfkkefhijhjaaaaDoorRg
namespace Go.Proofs.YtfkkefhijhjaaaaDoor.Gr
open Go.RowKit Go.Proofs.YtfkkefhijhjaaaaDoorW.PrintWords Go.Proofs.YtfkkefhijhjaaaaDoorW.PrintLast Go.Proofs.YtfkkefhijhjaaaaDoorW.PrintMore
open Go.Lib Go.Sort
set_option linter.unusedVariables false
set_option linter.unusedSimpArgs false
def or2 (x y : Int) : Int := if x = 0 then y else x
set_option maxHeartbeats 8000000 in
set_option maxRecDepth 100000 in
theorem or_two (b : Nat) (x y : Int) (w : World) (h0 : w.cell? ⟨b, 0, none⟩ = some (.int .i64 x)) (h1 : w.cell? ⟨b, 1, none⟩ = some (.int .i64 y)) :
    Calls Tryd.prog 45 #[.slice (some ⟨b, 0, none⟩) 2 2] w fun e w' => e = .returned (.int .i64 (or2 x y)) ∧ w = w' := by
  by_cases hx : x = 0
  · by_cases hy : y = 0
    · have HX := Aside0.mk (And.intro hx hy)
      rw [hx] at h0
      rw [hy] at h1
      clear hx hy
      go_enter Tryd.func45, Tryd.ntmps45
      go_wp2_with fail
      go_loopg [8] 2 (fun q s8 wr => wr = w ∧ ∃ i : Nat, s8 = .int .i64 (i : Int) ∧ Aside0 (q + i = 2))
      case atStart => exact ⟨rfl, 0, rfl, ⟨rfl⟩⟩
      case round =>
        obtain ⟨rfl, i, rfl, HQ⟩ := hrel
        have hi : i = 0 ∨ i = 1 ∨ i = 2 := by have := HQ.out; omega
        rcases hi with rfl | rfl | rfl
        · go_wp2_with fail
          go_roundg (gk - 1)
          case measure => have := HQ.out; omega
          case rel => exact ⟨rfl, 1, rfl, ⟨by have := HQ.out; omega⟩⟩
        · go_wp2_with fail
          go_roundg (gk - 1)
          case measure => have := HQ.out; omega
          case rel => exact ⟨rfl, 2, rfl, ⟨by have := HQ.out; omega⟩⟩
        · go_wp2_with fail
          go_ret
          refine ⟨?_, rfl⟩
          unfold or2
          rw [HX.out.1, HX.out.2]; rfl
    · have hy1 : (y == 0) = false := by simpa using hy
      have hy2 : (y != 0) = true := by simp [hy]
      have HX := Aside0.mk hx
      rw [hx] at h0
      clear hx
      go_enter Tryd.func45, Tryd.ntmps45
      go_wp2_with fail
      go_loopg [8] 2 (fun q s8 wr => wr = w ∧ ∃ i : Nat, s8 = .int .i64 (i : Int) ∧ Aside0 (q + i = 2 ∧ i < 2))
      case atStart => exact ⟨rfl, 0, rfl, ⟨rfl, by omega⟩⟩
      case round =>
        obtain ⟨rfl, i, rfl, HQ⟩ := hrel
        have hi : i = 0 ∨ i = 1 := by have := HQ.out; omega
        rcases hi with rfl | rfl
        · go_wp2_with fail
          go_roundg (gk - 1)
          case measure => have := HQ.out; omega
          case rel => exact ⟨rfl, 1, rfl, ⟨by have := HQ.out; omega, by omega⟩⟩
        · go_wp2_with fail
          go_ret
          refine ⟨?_, rfl⟩
          unfold or2
          rw [HX.out]; rfl
  · have hx1 : (x == 0) = false := by simpa using hx
    have hx2 : (x != 0) = true := by simp [hx]
    go_enter Tryd.func45, Tryd.ntmps45
    go_wp2_with fail
    go_loopg [8] 2 (fun q s8 wr => wr = w ∧ s8 = .int .i64 0)
    case atStart => exact ⟨rfl, rfl⟩
    case round =>
      obtain ⟨rfl, rfl⟩ := hrel
      go_wp2_with fail
      go_ret
      exact ⟨by unfold or2; rw [if_neg hx]; rfl, rfl⟩
def cf (a b : Int × Int) : Int := or2 (compareInt a.1 b.1) (compareInt a.2 b.2)
noncomputable def cmpR : Array Oper := opsOf Tryd.f44 1
noncomputable def cmpRt : List Rg.Ent := [⟨0, 0, some 5, none, Op.indexAddr 24 (Operand.tmp 2) (Operand.const (Value.int IntKind.i64 0))⟩,
  ⟨1, 1, some 6, none, Op.load 3 (Operand.tmp 5)⟩,
  ⟨0, 0, some 7, none, Op.indexAddr 24 (Operand.tmp 3) (Operand.const (Value.int IntKind.i64 0))⟩,
  ⟨4, 4, some 8, none, Op.load 3 (Operand.tmp 7)⟩,
  ⟨10, 10, some 9, none, Op.call { callee := Callee.value (Operand.func 46), args := #[Operand.tmp 6, Operand.tmp 8], argTypes := #[3, 3] }⟩,
  ⟨0, 0, some 10, none, Op.indexAddr 24 (Operand.tmp 2) (Operand.const (Value.int IntKind.i64 1))⟩,
  ⟨32, 32, some 11, none, Op.load 3 (Operand.tmp 10)⟩,
  ⟨0, 0, some 12, none, Op.indexAddr 24 (Operand.tmp 3) (Operand.const (Value.int IntKind.i64 1))⟩,
  ⟨128, 128, some 13, none, Op.load 3 (Operand.tmp 12)⟩,
  ⟨336, 320, some 14, none, Op.call { callee := Callee.value (Operand.func 46), args := #[Operand.tmp 11, Operand.tmp 13], argTypes := #[3, 3] }⟩,
  ⟨528, 528, some 15, none, Op.buildSlice 44 2 #[(0, Operand.tmp 9), (1, Operand.tmp 14)]⟩,
  ⟨1536, 1024, some 16, none, Op.call { callee := Callee.value (Operand.func 45), args := #[Operand.tmp 15], argTypes := #[44] }⟩,
  ⟨4095, 2048, some 4, none, Op.assign (Operand.tmp 16)⟩]
theorem cmpRT : Rg.Tabd .any cmpR 13 cmpRt := ⟨by kernel_rfl, by kernel_rfl, by kernel_rfl⟩
theorem three_grow (w : World) (o1 o2 o3 : Obj) : (((w.alloc o1).alloc o2).drew).alloc o3 = grow (w.drewN 1) #[o1, o2, o3] := by
  rw [alloc_eq_grow, alloc_eq_grow, alloc_eq_grow]
  show grow (grow (grow (w.drewN 1) #[o1]) #[o2]) #[o3] = _
  rw [grow_grow, grow_grow]
  rfl
theorem pw_cell_alloc {w : World} {p : Addr} {v : Value} {o : Obj} (h : w.cell? p = some v) : (w.alloc o).cell? p = some v := pw_cell_below (below_alloc (Below.refl _ _) o) h
set_option maxHeartbeats 8000000 in
set_option maxRecDepth 100000 in
theorem cmp_calls (x y : Int × Int) (w : World) :
    Calls Tryd.prog 44 #[.agg #[.int .i64 x.1, .int .i64 x.2], .agg #[.int .i64 y.1, .int .i64 y.2]] w fun e w' => e = .returned (.int .i64 (cf x y)) ∧ ∃ q os', w' = grow (w.drewN q) os' := by
  have hc : ((((w.alloc (.cells #[.int .i64 x.1, .int .i64 x.2] 24)).alloc (.cells #[.int .i64 y.1, .int .i64 y.2] 24)).drew).cell? ⟨w.heap.size, 0, none⟩ = some (.int .i64 x.1) ∧ (((w.alloc (.cells #[.int .i64 x.1, .int .i64 x.2] 24)).alloc (.cells #[.int .i64 y.1, .int .i64 y.2] 24)).drew).cell? ⟨w.heap.size, 1, none⟩ = some (.int .i64 x.2) ∧ (((w.alloc (.cells #[.int .i64 x.1, .int .i64 x.2] 24)).alloc (.cells #[.int .i64 y.1, .int .i64 y.2] 24)).drew).cell? ⟨w.heap.size + 1, 0, none⟩ = some (.int .i64 y.1) ∧ (((w.alloc (.cells #[.int .i64 x.1, .int .i64 x.2] 24)).alloc (.cells #[.int .i64 y.1, .int .i64 y.2] 24)).drew).cell? ⟨w.heap.size + 1, 1, none⟩ = some (.int .i64 y.2)) := ⟨by go_simp, by go_simp, by go_simp, by go_simp⟩
  go_enter Tryd.func44, Tryd.ntmps44
  go_wp2_with fail
  refine Rg.start cmpR (fun w' => w'.cell? ⟨w.heap.size, 0, none⟩ = some (.int .i64 x.1) ∧ w'.cell? ⟨w.heap.size, 1, none⟩ = some (.int .i64 x.2) ∧ w'.cell? ⟨w.heap.size + 1, 0, none⟩ = some (.int .i64 y.1) ∧ w'.cell? ⟨w.heap.size + 1, 1, none⟩ = some (.int .i64 y.2)) 17 13 131056 [(2, .pointer (some ⟨w.heap.size, 0, none⟩)), (3, .pointer (some ⟨w.heap.size + 1, 0, none⟩)), (4, .int .i64 0)] cmpRt (by kernel_rfl) (by kernel_rfl) cmpRT (by decide) (fun c a a' w e h => ⟨e ▸ h.1, h.2⟩) (by kernel_rfl) ⟨rfl, rfl, rfl, trivial⟩ (hc) (fun Q' C HE hS => ?_)
  refine Rg.gen C hS 0 5 1 (.pointer (some ⟨w.heap.size, 0, none⟩)) (Op.indexAddr 24 (Operand.tmp 2) (Operand.const (Value.int IntKind.i64 0))) [(Operand.tmp 2, .pointer (some ⟨w.heap.size, 0, none⟩)), (Operand.const (Value.int IntKind.i64 0), Value.int IntKind.i64 0)] (by kernel_rfl) (by kernel_rfl) (by kernel_rfl) (fun o ho ρ h w hS => by have h1 := h _ (.head _); have h2 := h _ (.tail _ (.head _)); simp only at h1 h2; clear h; unfold execOp; simp only [ho, h1, h2]; go_simp) ?_
  refine Rg.gen C hS 1 6 3 (.int .i64 x.1) (Op.load 3 (Operand.tmp 5)) [(Operand.tmp 5, .pointer (some ⟨w.heap.size, 0, none⟩))] (by kernel_rfl) (by kernel_rfl) (by kernel_rfl) (fun o ho ρ h w hS => by have h1 := h _ (.head _); simp only at h1; clear h; unfold execOp; simp only [ho, h1]; obtain ⟨c0, c1, c2, c3⟩ := hS; go_simp) ?_
  refine Rg.gen C hS 2 7 7 (.pointer (some ⟨w.heap.size + 1, 0, none⟩)) (Op.indexAddr 24 (Operand.tmp 3) (Operand.const (Value.int IntKind.i64 0))) [(Operand.tmp 3, .pointer (some ⟨w.heap.size + 1, 0, none⟩)), (Operand.const (Value.int IntKind.i64 0), Value.int IntKind.i64 0)] (by kernel_rfl) (by kernel_rfl) (by kernel_rfl) (fun o ho ρ h w hS => by have h1 := h _ (.head _); have h2 := h _ (.tail _ (.head _)); simp only at h1 h2; clear h; unfold execOp; simp only [ho, h1, h2]; go_simp) ?_
  refine Rg.gen C hS 3 8 15 (.int .i64 y.1) (Op.load 3 (Operand.tmp 7)) [(Operand.tmp 7, .pointer (some ⟨w.heap.size + 1, 0, none⟩))] (by kernel_rfl) (by kernel_rfl) (by kernel_rfl) (fun o ho ρ h w hS => by have h1 := h _ (.head _); simp only at h1; clear h; unfold execOp; simp only [ho, h1]; obtain ⟨c0, c1, c2, c3⟩ := hS; go_simp) ?_
  refine Rg.gen C hS 5 10 47 (.pointer (some ⟨w.heap.size, 1, none⟩)) (Op.indexAddr 24 (Operand.tmp 2) (Operand.const (Value.int IntKind.i64 1))) [(Operand.tmp 2, .pointer (some ⟨w.heap.size, 0, none⟩)), (Operand.const (Value.int IntKind.i64 1), Value.int IntKind.i64 1)] (by kernel_rfl) (by kernel_rfl) (by kernel_rfl) (fun o ho ρ h w hS => by have h1 := h _ (.head _); have h2 := h _ (.tail _ (.head _)); simp only at h1 h2; clear h; unfold execOp; simp only [ho, h1, h2]; go_simp) ?_
  refine Rg.gen C hS 6 11 111 (.int .i64 x.2) (Op.load 3 (Operand.tmp 10)) [(Operand.tmp 10, .pointer (some ⟨w.heap.size, 1, none⟩))] (by kernel_rfl) (by kernel_rfl) (by kernel_rfl) (fun o ho ρ h w hS => by have h1 := h _ (.head _); simp only at h1; clear h; unfold execOp; simp only [ho, h1]; obtain ⟨c0, c1, c2, c3⟩ := hS; go_simp) ?_
  refine Rg.gen C hS 7 12 239 (.pointer (some ⟨w.heap.size + 1, 1, none⟩)) (Op.indexAddr 24 (Operand.tmp 3) (Operand.const (Value.int IntKind.i64 1))) [(Operand.tmp 3, .pointer (some ⟨w.heap.size + 1, 0, none⟩)), (Operand.const (Value.int IntKind.i64 1), Value.int IntKind.i64 1)] (by kernel_rfl) (by kernel_rfl) (by kernel_rfl) (fun o ho ρ h w hS => by have h1 := h _ (.head _); have h2 := h _ (.tail _ (.head _)); simp only at h1 h2; clear h; unfold execOp; simp only [ho, h1, h2]; go_simp) ?_
  refine Rg.gen C hS 8 13 495 (.int .i64 y.2) (Op.load 3 (Operand.tmp 12)) [(Operand.tmp 12, .pointer (some ⟨w.heap.size + 1, 1, none⟩))] (by kernel_rfl) (by kernel_rfl) (by kernel_rfl) (fun o ho ρ h w hS => by have h1 := h _ (.head _); simp only at h1; clear h; unfold execOp; simp only [ho, h1]; obtain ⟨c0, c1, c2, c3⟩ := hS; go_simp) ?_
  refine Rg.call C 4 9 511 #[.int .i64 x.1, .int .i64 y.1] (by kernel_rfl) Tryd.func46 (by kernel_rfl) rfl (by kernel_rfl) ?_
  refine (Tryd.cmp_Compare_int x.1 y.1 _).mono ?_
  rintro e w' ⟨rfl, rfl⟩
  refine ⟨_, rfl, hS, ?_⟩
  refine Rg.call C 9 14 1023 #[.int .i64 x.2, .int .i64 y.2] (by kernel_rfl) Tryd.func46 (by kernel_rfl) rfl (by kernel_rfl) ?_
  refine (Tryd.cmp_Compare_int x.2 y.2 _).mono ?_
  rintro e w' ⟨rfl, rfl⟩
  refine ⟨_, rfl, hS, ?_⟩
  generalize hWd : ((w.alloc (.cells #[.int .i64 x.1, .int .i64 x.2] 24)).alloc (.cells #[.int .i64 y.1, .int .i64 y.2] 24)).drew = Wd at hS ⊢
  have hsz : Wd.heap.size = w.heap.size + 1 + 1 := by rw [← hWd]; simp
  refine Rg.make C 10 15 2047 (.slice (some ⟨Wd.heap.size, 0, none⟩) 2 2) (Wd.alloc (.cells #[.int .i64 (compareInt x.1 y.1), .int .i64 (compareInt x.2 y.2)] 3)) (Op.buildSlice 44 2 #[(0, Operand.tmp 9), (1, Operand.tmp 14)]) [(Operand.tmp 9, .int .i64 (compareInt x.1 y.1)), (Operand.tmp 14, .int .i64 (compareInt x.2 y.2))] (by kernel_rfl) (by kernel_rfl) (by kernel_rfl) (fun o ho ρ h => by have h1 := h _ (.head _); have h2 := h _ (.tail _ (.head _)); simp only at h1 h2; clear h; unfold execOp; simp only [ho, h1, h2]; go_simp) (⟨pw_cell_alloc hS.1, pw_cell_alloc hS.2.1, pw_cell_alloc hS.2.2.1, pw_cell_alloc hS.2.2.2⟩) ?_
  refine Rg.call C 11 16 4095 #[.slice (some ⟨Wd.heap.size, 0, none⟩) 2 2] (by kernel_rfl) Tryd.func45 (by kernel_rfl) rfl (by kernel_rfl) ?_
  refine (or_two Wd.heap.size (compareInt x.1 y.1) (compareInt x.2 y.2) _ ((blk_cell (heap_alloc_new Wd _) 0).trans rfl) ((blk_cell (heap_alloc_new Wd _) 1).trans rfl)).mono ?_
  rintro e w' ⟨rfl, rfl⟩
  refine ⟨_, rfl, ⟨pw_cell_alloc hS.1, pw_cell_alloc hS.2.1, pw_cell_alloc hS.2.2.1, pw_cell_alloc hS.2.2.2⟩, ?_⟩
  refine Rg.move C 12 4 8191 (.int .i64 (cf x y)) (by kernel_rfl) (by kernel_rfl) ?_
  refine Rg.done C (by kernel_rfl) (fun a hF => HE.out _ _ ?_)
  go_wp2_with fail
  refine bodyPost_ret (results_tmp rfl _ _ _) hF.defers ⟨by rw [hF.get 4 (by kernel_rfl)]; rfl, 1, #[.cells #[.int .i64 x.1, .int .i64 x.2] 24, .cells #[.int .i64 y.1, .int .i64 y.2] 24, .cells #[.int .i64 (compareInt x.1 y.1), .int .i64 (compareInt x.2 y.2)] 3], ?_⟩
  subst hWd
  exact three_grow _ _ _ _
end Go.Proofs.YtfkkefhijhjaaaaDoor.Gr
