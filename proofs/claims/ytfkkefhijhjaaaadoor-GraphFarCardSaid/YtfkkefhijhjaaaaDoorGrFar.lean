import Derived.Test.YtfkkefhijhjaaaaDoorGrQ
import Derived.Test.YtfkkefhijhjaaaaDoorRg
import Derived.IntWalk
namespace Go.Proofs.YtfkkefhijhjaaaaDoor.Gr
open Go.RowKit Go.Proofs.YtfkkefhijhjaaaaDoorW.PrintWords Go.Proofs.YtfkkefhijhjaaaaDoorW.PrintLast Go.Proofs.YtfkkefhijhjaaaaDoorW.PrintMore
set_option linter.unusedVariables false
set_option linter.unusedSimpArgs false
noncomputable def farQ : Array Oper := opsOf Tryd.f9 2
noncomputable def farQt : List Rg.Ent := [⟨0, 0, some 16, none, Op.move (Operand.tmp 1)⟩,
  ⟨0, 0, some 17, none, Op.fieldAddr 27 (Operand.tmp 9) 0⟩,
  ⟨2, 2, some 18, none, Op.load 3 (Operand.tmp 17)⟩,
  ⟨4, 4, some 19, none, Op.binOp BinOp.sub 3 (Operand.tmp 18) (Operand.const (Value.int IntKind.i64 1)) 3⟩,
  ⟨9, 9, some 20, none, Op.call { callee := Callee.value (Operand.func 20), args := #[Operand.tmp 16, Operand.const (Value.int IntKind.i64 0), Operand.tmp 19], argTypes := #[3, 3, 3] }⟩,
  ⟨0, 0, some 21, none, Op.move (Operand.tmp 2)⟩,
  ⟨0, 0, some 22, none, Op.fieldAddr 27 (Operand.tmp 9) 0⟩,
  ⟨64, 64, some 23, none, Op.load 3 (Operand.tmp 22)⟩,
  ⟨128, 128, some 24, none, Op.binOp BinOp.sub 3 (Operand.tmp 23) (Operand.const (Value.int IntKind.i64 1)) 3⟩,
  ⟨304, 288, some 25, none, Op.call { callee := Callee.value (Operand.func 20), args := #[Operand.tmp 21, Operand.const (Value.int IntKind.i64 0), Operand.tmp 24], argTypes := #[3, 3, 3] }⟩,
  ⟨0, 0, some 26, none, Op.move (Operand.tmp 3)⟩,
  ⟨0, 0, some 27, none, Op.fieldAddr 27 (Operand.tmp 9) 0⟩,
  ⟨2048, 2048, some 28, none, Op.load 3 (Operand.tmp 27)⟩,
  ⟨4096, 4096, some 29, none, Op.binOp BinOp.sub 3 (Operand.tmp 28) (Operand.const (Value.int IntKind.i64 1)) 3⟩,
  ⟨9728, 9216, some 30, none, Op.call { callee := Callee.value (Operand.func 20), args := #[Operand.tmp 26, Operand.const (Value.int IntKind.i64 0), Operand.tmp 29], argTypes := #[3, 3, 3] }⟩,
  ⟨16415, 16, some 10, none, Op.assign (Operand.tmp 20)⟩,
  ⟨33791, 512, some 11, none, Op.assign (Operand.tmp 25)⟩,
  ⟨131071, 16384, some 12, none, Op.assign (Operand.tmp 30)⟩]
theorem farQT : Rg.Tabd .any farQ 18 farQt := ⟨by kernel_rfl, by kernel_rfl, by kernel_rfl⟩
noncomputable def farR : Array Oper := opsOf Tryd.f9 4
noncomputable def farRt : List Rg.Ent := [⟨0, 0, some 35, none, Op.move (Operand.tmp 13)⟩,
  ⟨0, 0, some 36, none, Op.load 27 (Operand.tmp 9)⟩,
  ⟨0, 0, some 37, none, Op.move (Operand.tmp 11)⟩,
  ⟨0, 0, some 38, none, Op.move (Operand.tmp 10)⟩,
  ⟨14, 14, some 39, none, Op.call { callee := Callee.value (Operand.func 28), args := #[Operand.tmp 36, Operand.tmp 37, Operand.tmp 38], argTypes := #[27, 3, 3] }⟩,
  ⟨17, 17, some 40, none, Op.binOp BinOp.eql 3 (Operand.tmp 35) (Operand.tmp 39) 3⟩,
  ⟨48, 32, some 41, none, Op.move (Operand.tmp 40)⟩,
  ⟨64, 64, some 42, some (41, true), Op.move (Operand.tmp 13)⟩,
  ⟨192, 192, some 43, some (41, true), Op.binOp BinOp.eql 3 (Operand.tmp 42) (Operand.const (Value.int IntKind.i64 0)) 3⟩,
  ⟨64, 64, some 44, some (41, true), Op.move (Operand.tmp 10)⟩,
  ⟨64, 64, some 45, some (41, true), Op.move (Operand.tmp 11)⟩,
  ⟨1600, 1600, some 46, some (41, true), Op.binOp BinOp.eql 3 (Operand.tmp 44) (Operand.tmp 45) 3⟩,
  ⟨2368, 2368, some 47, some (41, true), Op.binOp BinOp.eql 4 (Operand.tmp 43) (Operand.tmp 46) 4⟩,
  ⟨4160, 4160, some 48, none, Op.pick (Operand.tmp 41) (Operand.tmp 47) (Operand.const (Value.bool false))⟩,
  ⟨8256, 8192, some 49, none, Op.move (Operand.tmp 48)⟩,
  ⟨16384, 16384, some 50, some (49, true), Op.move (Operand.tmp 13)⟩,
  ⟨49152, 49152, some 51, some (49, true), Op.binOp BinOp.eql 3 (Operand.tmp 50) (Operand.const (Value.int IntKind.i64 1)) 3⟩,
  ⟨16384, 16384, some 52, some (49, true), Op.load 27 (Operand.tmp 9)⟩,
  ⟨16384, 16384, some 53, some (49, true), Op.move (Operand.tmp 10)⟩,
  ⟨16384, 16384, some 54, some (49, true), Op.move (Operand.tmp 11)⟩,
  ⟨933888, 933888, some 55, some (49, true), Op.call { callee := Callee.value (Operand.func 30), args := #[Operand.tmp 52, Operand.tmp 53, Operand.tmp 54], argTypes := #[27, 3, 3] }⟩,
  ⟨1130496, 1130496, some 56, some (49, true), Op.binOp BinOp.eql 4 (Operand.tmp 51) (Operand.tmp 55) 4⟩,
  ⟨2113536, 2113536, some 57, none, Op.pick (Operand.tmp 49) (Operand.tmp 56) (Operand.const (Value.bool false))⟩,
  ⟨5242880, 4194304, some 58, none, Op.move (Operand.tmp 57)⟩,
  ⟨8388608, 8388608, some 59, some (58, true), Op.move (Operand.tmp 13)⟩,
  ⟨8388608, 8388608, some 60, some (58, true), Op.load 27 (Operand.tmp 9)⟩,
  ⟨8388608, 8388608, some 61, some (58, true), Op.move (Operand.tmp 10)⟩,
  ⟨8388608, 8388608, some 62, some (58, true), Op.move (Operand.tmp 12)⟩,
  ⟨243269632, 243269632, some 63, some (58, true), Op.call { callee := Callee.value (Operand.func 28), args := #[Operand.tmp 60, Operand.tmp 61, Operand.tmp 62], argTypes := #[27, 3, 3] }⟩,
  ⟨8388608, 8388608, some 64, some (58, true), Op.load 27 (Operand.tmp 9)⟩,
  ⟨8388608, 8388608, some 65, some (58, true), Op.move (Operand.tmp 12)⟩,
  ⟨8388608, 8388608, some 66, some (58, true), Op.move (Operand.tmp 11)⟩,
  ⟨4034920448, 3766484992, some 67, some (58, true), Op.call { callee := Callee.value (Operand.func 28), args := #[Operand.tmp 64, Operand.tmp 65, Operand.tmp 66], argTypes := #[27, 3, 3] }⟩,
  ⟨4571791360, 4571791360, some 68, some (58, true), Op.binOp BinOp.add 3 (Operand.tmp 63) (Operand.tmp 67) 3⟩,
  ⟨8615100416, 8615100416, some 69, some (58, true), Op.binOp BinOp.leq 3 (Operand.tmp 59) (Operand.tmp 68) 3⟩,
  ⟨17188257792, 17188257792, some 70, none, Op.pick (Operand.tmp 58) (Operand.tmp 69) (Operand.const (Value.bool false))⟩,
  ⟨38654705664, 34359738368, some 71, none, Op.move (Operand.tmp 70)⟩,
  ⟨68719476736, 68719476736, some 72, some (71, true), Op.move (Operand.tmp 13)⟩,
  ⟨68719476736, 68719476736, some 73, some (71, true), Op.fieldAddr 27 (Operand.tmp 9) 0⟩,
  ⟨343597383680, 343597383680, some 74, some (71, true), Op.load 3 (Operand.tmp 73)⟩,
  ⟨755914244096, 755914244096, some 75, some (71, true), Op.binOp BinOp.lss 3 (Operand.tmp 72) (Operand.tmp 74) 3⟩,
  ⟨1168231104512, 1168231104512, some 76, none, Op.pick (Operand.tmp 71) (Operand.tmp 75) (Operand.const (Value.bool false))⟩,
  ⟨2267742732288, 2199023255552, some 77, none, Op.move (Operand.tmp 76)⟩,
  ⟨4398046511104, 4398046511104, some 78, some (77, true), Op.load 27 (Operand.tmp 9)⟩,
  ⟨4398046511104, 4398046511104, some 79, some (77, true), Op.move (Operand.tmp 10)⟩,
  ⟨4398046511104, 4398046511104, some 80, some (77, true), Op.fieldAddr 27 (Operand.tmp 9) 0⟩,
  ⟨39582418599936, 39582418599936, some 81, some (77, true), Op.load 3 (Operand.tmp 80)⟩,
  ⟨101155069755392, 101155069755392, some 82, some (77, true), Op.call { callee := Callee.value (Operand.func 28), args := #[Operand.tmp 78, Operand.tmp 79, Operand.tmp 81], argTypes := #[27, 3, 3] }⟩,
  ⟨145135534866432, 145135534866432, some 83, some (77, true), Op.binOp BinOp.eql 3 (Operand.tmp 82) (Operand.const (Value.int IntKind.i64 (-1))) 3⟩,
  ⟨285873023221760, 285873023221760, some 84, none, Op.pick (Operand.tmp 77) (Operand.tmp 83) (Operand.const (Value.bool false))⟩,
  ⟨703687441776640, 562949953421312, some 85, none, Op.move (Operand.tmp 84)⟩,
  ⟨1125899906842624, 1125899906842624, some 86, some (85, true), Op.load 27 (Operand.tmp 9)⟩,
  ⟨1125899906842624, 1125899906842624, some 87, some (85, true), Op.move (Operand.tmp 10)⟩,
  ⟨7881299347898368, 7881299347898368, some 88, some (85, true), Op.call { callee := Callee.value (Operand.func 28), args := #[Operand.tmp 86, Operand.const (Value.int IntKind.i64 (-1)), Operand.tmp 87], argTypes := #[27, 3, 3] }⟩,
  ⟨10133099161583616, 10133099161583616, some 89, some (85, true), Op.binOp BinOp.eql 3 (Operand.tmp 88) (Operand.const (Value.int IntKind.i64 (-1))) 3⟩,
  ⟨19140298416324608, 19140298416324608, some 90, none, Op.pick (Operand.tmp 85) (Operand.tmp 89) (Operand.const (Value.bool false))⟩,
  ⟨45035996273704960, 36028797018963968, some 91, none, Op.move (Operand.tmp 90)⟩,
  ⟨72057594037927936, 72057594037927936, some 92, some (91, true), Op.call { callee := Callee.value (Operand.func 6), args := #[], argTypes := #[] }⟩,
  ⟨216172782113783808, 216172782113783808, some 93, none, Op.pick (Operand.tmp 91) (Operand.tmp 92) (Operand.const (Value.bool false))⟩,
  ⟨576460752303423487, 288230376151711744, some 8, none, Op.assign (Operand.tmp 93)⟩]
theorem farRT : Rg.Tabd .any farR 60 farRt := ⟨by kernel_rfl, by kernel_rfl, by kernel_rfl⟩
set_option maxHeartbeats 8000000 in
set_option maxRecDepth 100000 in
theorem Far.walk (B : Int) (AU AM : Option Addr) (cU cM : Nat) (us ms : List Int) (p q s : Int) (w : World) (HTYP : Aside0 (Er.Typ w)) (hu : Kd.C (Kd.int .i64) w AU us.length us) (hm : Kd.C (Kd.int .i64) w AM ms.length ms) :
    Calls Tryd.prog 9 #[.agg #[.int .i64 B, .slice AU us.length cU, .slice AM ms.length cM], .int .i64 p, .int .i64 q, .int .i64 s] w fun e w' => e = .returned (.bool true) ∧ Below w.heap.size w w' := by
  have FU := Aside0.mk hu
  have FM := Aside0.mk hm
  clear hu hm
  go_enter Tryd.func9, Tryd.ntmps9
  go_upto_region 2 with ((go_at_call 18; (with_reducible refine (graph_calls B AU AM cU cM us ms _ (Kd.C_alloc FU.out _) (Kd.C_alloc FM.out _)).mono ?_); rintro e w2 ⟨N, ls, A, c2, rfl, hR, hN, hl, hC, hc, hB⟩; obtain ⟨n, hn⟩ : ∃ n, ls.length = n := ⟨_, rfl⟩; rw [hn] at hl hC hc ⊢; have HR := Aside0.mk hR; have HN := Aside0.mk hN; have HCC := Aside0.mk (And.intro hC (And.intro hc hl)); have HB := Aside0.mk hB; clear hR hN hl hC hc hB hn))
  have hL : (w2.alloc (Obj.cells #[.int .i64 N, .slice A n c2] 27)).heap[w2.heap.size]? = some (.cells #[.int .i64 N, .slice A n c2] 27 (0, 0)) := heap_alloc_new w2 _
  have hBW : Below w.heap.size w (w2.alloc (Obj.cells #[.int .i64 N, .slice A n c2] 27)) := below_alloc (below_step (below_alloc (Below.refl _ _) _) HB.out) _
  have hCW : Kd.C k24 (w2.alloc (Obj.cells #[.int .i64 N, .slice A n c2] 27)) A n ls := Kd.C_alloc HCC.out.1 _
  generalize w2.alloc (Obj.cells #[.int .i64 N, .slice A n c2] 27) = W at hL hBW hCW ⊢
  generalize w2.heap.size = g at hL ⊢
  have HBW := Aside0.mk hBW
  have LD : Aside0 (∀ w', Below W.heap.size W w' → w'.cell? ⟨g, 0, none⟩ = some (.int .i64 N) ∧ w'.cell? ⟨g, 1, none⟩ = some (.slice A n c2) ∧ Kd.C k24 w' A n ls ∧ Er.Typ w') :=
    ⟨fun w' h => ⟨(h.cell (blk_lt hL)).trans ((blk_cell hL 0).trans rfl), (h.cell (blk_lt hL)).trans ((blk_cell hL 1).trans rfl), Kd.C_below hCW h, (HTYP.out.below hBW).below h⟩⟩
  have HC : Aside0 (n ≤ c2 ∧ n ≤ 1000000 ∧ N ≤ 1000000) := ⟨by have := HCC.out; have := HN.out; omega⟩
  have HL : Aside0 (n ≤ 1000 ∧ 0 ≤ N ∧ N ≤ 100) := ⟨by have := HCC.out; have := HN.out; omega⟩
  clear HCC HB hL hBW hCW
  have hN1 : 1 ≤ N := HN.out.1
  have hN7 : N ≤ 7 := HN.out.2
  have eN : IntKind.i64.wrap (N - 1) = N - 1 := IntWalk.i64_in _ (by omega)
  have hg0 := (LD.out W (Below.refl _ _)).1
  have hg1 := (LD.out W (Below.refl _ _)).2.1
  refine Rg.start farQ (fun w' => Below W.heap.size W w') 94 18 2147425280 [(1, .int .i64 p), (2, .int .i64 q), (3, .int .i64 s), (9, .pointer (some ⟨g, 0, none⟩))] farQt (by kernel_rfl) (by kernel_rfl) farQT (by decide) (fun c a a' w e h => ⟨e ▸ h.1, h.2⟩) (by kernel_rfl) ⟨rfl, rfl, rfl, rfl, trivial⟩ (below_drew1 (Below.refl W.heap.size W)) (fun Q' C HE hS => ?_)
  refine Rg.move C 0 16 1 (.int .i64 p) (by kernel_rfl) (by kernel_rfl) ?_
  refine Rg.gen C hS 1 17 3 (.pointer (some ⟨g, 0, none⟩)) (Op.fieldAddr 27 (Operand.tmp 9) 0) [(Operand.tmp 9, .pointer (some ⟨g, 0, none⟩))] (by kernel_rfl) (by kernel_rfl) (by kernel_rfl) (fun o ho ρ h w hS => by have h1 := h _ (.head _); simp only at h1; clear h; unfold execOp; simp only [ho, h1]; go_simp) ?_
  refine Rg.gen C hS 2 18 7 (.int .i64 N) (Op.load 3 (Operand.tmp 17)) [(Operand.tmp 17, .pointer (some ⟨g, 0, none⟩))] (by kernel_rfl) (by kernel_rfl) (by kernel_rfl) (fun o ho ρ h w hS => by have h1 := h _ (.head _); simp only at h1; clear h; unfold execOp; simp only [ho, h1]; obtain ⟨c0, c1, _, _⟩ := LD.out _ hS; go_simp) ?_
  refine Rg.gen C hS 3 19 15 (.int .i64 (N - 1)) (Op.binOp BinOp.sub 3 (Operand.tmp 18) (Operand.const (Value.int IntKind.i64 1)) 3) [(Operand.tmp 18, .int .i64 N), (Operand.const (Value.int IntKind.i64 1), Value.int IntKind.i64 1)] (by kernel_rfl) (by kernel_rfl) (by kernel_rfl) (fun o ho ρ h w hS => by have h1 := h _ (.head _); have h2 := h _ (.tail _ (.head _)); simp only at h1 h2; clear h; unfold execOp; simp only [ho, h1, h2]; go_simp) ?_
  refine Rg.move C 5 21 47 (.int .i64 q) (by kernel_rfl) (by kernel_rfl) ?_
  refine Rg.gen C hS 6 22 111 (.pointer (some ⟨g, 0, none⟩)) (Op.fieldAddr 27 (Operand.tmp 9) 0) [(Operand.tmp 9, .pointer (some ⟨g, 0, none⟩))] (by kernel_rfl) (by kernel_rfl) (by kernel_rfl) (fun o ho ρ h w hS => by have h1 := h _ (.head _); simp only at h1; clear h; unfold execOp; simp only [ho, h1]; go_simp) ?_
  refine Rg.gen C hS 7 23 239 (.int .i64 N) (Op.load 3 (Operand.tmp 22)) [(Operand.tmp 22, .pointer (some ⟨g, 0, none⟩))] (by kernel_rfl) (by kernel_rfl) (by kernel_rfl) (fun o ho ρ h w hS => by have h1 := h _ (.head _); simp only at h1; clear h; unfold execOp; simp only [ho, h1]; obtain ⟨c0, c1, _, _⟩ := LD.out _ hS; go_simp) ?_
  refine Rg.gen C hS 8 24 495 (.int .i64 (N - 1)) (Op.binOp BinOp.sub 3 (Operand.tmp 23) (Operand.const (Value.int IntKind.i64 1)) 3) [(Operand.tmp 23, .int .i64 N), (Operand.const (Value.int IntKind.i64 1), Value.int IntKind.i64 1)] (by kernel_rfl) (by kernel_rfl) (by kernel_rfl) (fun o ho ρ h w hS => by have h1 := h _ (.head _); have h2 := h _ (.tail _ (.head _)); simp only at h1 h2; clear h; unfold execOp; simp only [ho, h1, h2]; go_simp) ?_
  refine Rg.move C 10 26 1519 (.int .i64 s) (by kernel_rfl) (by kernel_rfl) ?_
  refine Rg.gen C hS 11 27 3567 (.pointer (some ⟨g, 0, none⟩)) (Op.fieldAddr 27 (Operand.tmp 9) 0) [(Operand.tmp 9, .pointer (some ⟨g, 0, none⟩))] (by kernel_rfl) (by kernel_rfl) (by kernel_rfl) (fun o ho ρ h w hS => by have h1 := h _ (.head _); simp only at h1; clear h; unfold execOp; simp only [ho, h1]; go_simp) ?_
  refine Rg.gen C hS 12 28 7663 (.int .i64 N) (Op.load 3 (Operand.tmp 27)) [(Operand.tmp 27, .pointer (some ⟨g, 0, none⟩))] (by kernel_rfl) (by kernel_rfl) (by kernel_rfl) (fun o ho ρ h w hS => by have h1 := h _ (.head _); simp only at h1; clear h; unfold execOp; simp only [ho, h1]; obtain ⟨c0, c1, _, _⟩ := LD.out _ hS; go_simp) ?_
  refine Rg.gen C hS 13 29 15855 (.int .i64 (N - 1)) (Op.binOp BinOp.sub 3 (Operand.tmp 28) (Operand.const (Value.int IntKind.i64 1)) 3) [(Operand.tmp 28, .int .i64 N), (Operand.const (Value.int IntKind.i64 1), Value.int IntKind.i64 1)] (by kernel_rfl) (by kernel_rfl) (by kernel_rfl) (fun o ho ρ h w hS => by have h1 := h _ (.head _); have h2 := h _ (.tail _ (.head _)); simp only at h1 h2; clear h; unfold execOp; simp only [ho, h1, h2]; go_simp) ?_
  refine Rg.call C 4 20 15871 #[.int .i64 p, Value.int IntKind.i64 0, .int .i64 (N - 1)] (by kernel_rfl) Tryd.func20 (by kernel_rfl) rfl (by kernel_rfl) ?_
  refine (within_val p 0 (N - 1) _ (by omega) (by omega) (by omega)).mono ?_
  rintro e w' ⟨rfl, rfl⟩
  refine ⟨_, rfl, hS, ?_⟩
  refine Rg.call C 9 25 16383 #[.int .i64 q, Value.int IntKind.i64 0, .int .i64 (N - 1)] (by kernel_rfl) Tryd.func20 (by kernel_rfl) rfl (by kernel_rfl) ?_
  refine (within_val q 0 (N - 1) _ (by omega) (by omega) (by omega)).mono ?_
  rintro e w' ⟨rfl, rfl⟩
  refine ⟨_, rfl, hS, ?_⟩
  refine Rg.call C 14 30 32767 #[.int .i64 s, Value.int IntKind.i64 0, .int .i64 (N - 1)] (by kernel_rfl) Tryd.func20 (by kernel_rfl) rfl (by kernel_rfl) ?_
  refine (within_val s 0 (N - 1) _ (by omega) (by omega) (by omega)).mono ?_
  rintro e w' ⟨rfl, rfl⟩
  refine ⟨_, rfl, hS, ?_⟩
  refine Rg.move C 15 10 65535 (.int .i64 (wi p 0 (N - 1))) (by kernel_rfl) (by kernel_rfl) ?_
  refine Rg.move C 16 11 131071 (.int .i64 (wi q 0 (N - 1))) (by kernel_rfl) (by kernel_rfl) ?_
  refine Rg.move C 17 12 262143 (.int .i64 (wi s 0 (N - 1))) (by kernel_rfl) (by kernel_rfl) ?_
  refine Rg.done_set C [(10, some (.int .i64 (wi p 0 (N - 1)))), (11, some (.int .i64 (wi q 0 (N - 1)))), (12, some (.int .i64 (wi s 0 (N - 1)))), (16, none), (17, none), (18, none), (19, none), (20, none), (21, none), (22, none), (23, none), (24, none), (25, none), (26, none), (27, none), (28, none), (29, none), (30, none)] (by kernel_rfl) (by kernel_rfl) (by kernel_rfl) (by kernel_rfl) (by kernel_rfl) (fun u => HE.out _ _ ?_)
  simp only [Rg.sets, List.map_cons, List.map_nil, Option.getD_some, Option.getD_none, List.foldl_cons, List.foldl_nil]
  simp only [List.set_cons_succ, List.set_cons_zero]
  have hx := wi_rng p (lo := 0) (hi := N - 1) (by omega)
  have hy := wi_rng q (lo := 0) (hi := N - 1) (by omega)
  have hz := wi_rng s (lo := 0) (hi := N - 1) (by omega)
  generalize wi p 0 (N - 1) = x at hx ⊢
  generalize wi q 0 (N - 1) = y at hy ⊢
  generalize wi s 0 (N - 1) = z at hz ⊢
  have HX : Aside0 (0 ≤ x ∧ x < N) := ⟨by omega⟩
  have HY : Aside0 (0 ≤ y ∧ y < N) := ⟨by omega⟩
  have HZZ : Aside0 (0 ≤ z ∧ z < N) := ⟨by omega⟩
  have HS := Aside0.mk hS
  clear hx hy hz hS C HE
  go_upto_region 4 with ((go_at_call 28; (with_reducible refine (far_at N x y A n c2 ls _ (LD.out _ HS.out).2.2.1 HC.out.1 HC.out.2.1 HC.out.2.2).mono ?_); rintro e w3 ⟨d, rfl, hF, hb⟩; have HD := Aside0.mk hF; have S0 := Aside0.mk (below_step HS.out hb); clear hF hb))
  clear hg0 hg1 HS
  have HDN := Aside0.mk (far_nat HR.out HX.out HY.out HD.out)
  obtain ⟨b0, hb0⟩ : ∃ b0 : Bool, b0 = decide (d = 0) := ⟨_, rfl⟩
  obtain ⟨b1, hb1⟩ : ∃ b1 : Bool, b1 = decide (d = 1) := ⟨_, rfl⟩
  have HZ : Aside0 ((b0 = true ↔ d = 0) ∧ (b0 = true ↔ x = y)) := ⟨by rw [hb0, decide_eq_true_iff]; exact ⟨Iff.rfl, far_zero HR.out HX.out HY.out HD.out⟩⟩
  have H1 : Aside0 ((b1 = true ↔ d = 1) ∧ (b1 = true ↔ Adj N ls x y)) := ⟨by rw [hb1, decide_eq_true_iff]; exact ⟨Iff.rfl, far_one HR.out HX.out HY.out HD.out⟩⟩
  clear hb0 hb1
  refine Rg.start farR (fun w' => Below W.heap.size W w') 94 60 19807040628566084364026249472 [(9, .pointer (some ⟨g, 0, none⟩)), (10, .int .i64 x), (11, .int .i64 y), (12, .int .i64 z), (13, .int .i64 d)] farRt (by kernel_rfl) (by kernel_rfl) farRT (by decide) (fun c a a' w e h => ⟨e ▸ h.1, h.2⟩) (by kernel_rfl) ⟨rfl, rfl, rfl, rfl, rfl, trivial⟩ (below_drew S0.out) (fun Q' C HE hS => ?_)
  refine Rg.move C 0 35 1 (.int .i64 d) (by kernel_rfl) (by kernel_rfl) ?_
  refine Rg.gen C hS 1 36 3 (.agg #[.int .i64 N, .slice A n c2]) (Op.load 27 (Operand.tmp 9)) [(Operand.tmp 9, .pointer (some ⟨g, 0, none⟩))] (by kernel_rfl) (by kernel_rfl) (by kernel_rfl) (fun o ho ρ h w hS => by have h1 := h _ (.head _); simp only at h1; clear h; unfold execOp; simp only [ho, h1]; obtain ⟨c0, c1, _, _⟩ := LD.out _ hS; go_simp) ?_
  refine Rg.move C 2 37 7 (.int .i64 y) (by kernel_rfl) (by kernel_rfl) ?_
  refine Rg.move C 3 38 15 (.int .i64 x) (by kernel_rfl) (by kernel_rfl) ?_
  refine Rg.call C 4 39 31 #[.agg #[.int .i64 N, .slice A n c2], .int .i64 y, .int .i64 x] (by kernel_rfl) Tryd.func28 (by kernel_rfl) rfl (by kernel_rfl) ?_
  refine (far_at N y x A n c2 ls _ (LD.out _ hS).2.2.1 HC.out.1 HC.out.2.1 HC.out.2.2).mono ?_
  rintro e w' ⟨r2, rfl, hF, hb⟩
  have e : d = r2 := (far_sym HR.out HX.out HY.out HD.out hF).symm
  subst e
  clear hF
  have hSn := below_step hS hb
  clear hS hb
  have hS := hSn
  clear hSn
  refine ⟨_, rfl, hS, ?_⟩
  refine Rg.gen C hS 5 40 63 (.bool true) (Op.binOp BinOp.eql 3 (Operand.tmp 35) (Operand.tmp 39) 3) [(Operand.tmp 35, .int .i64 d), (Operand.tmp 39, .int .i64 d)] (by kernel_rfl) (by kernel_rfl) (by kernel_rfl) (fun o ho ρ h w hS => by have h1 := h _ (.head _); have h2 := h _ (.tail _ (.head _)); simp only at h1 h2; clear h; unfold execOp; simp only [ho, h1, h2]; go_simp) ?_
  refine Rg.move C 6 41 127 (.bool true) (by kernel_rfl) (by kernel_rfl) ?_
  refine Rg.move C 7 42 255 (.int .i64 d) (by kernel_rfl) (by kernel_rfl) ?_
  refine Rg.gen C hS 8 43 511 (.bool b0) (Op.binOp BinOp.eql 3 (Operand.tmp 42) (Operand.const (Value.int IntKind.i64 0)) 3) [(Operand.tmp 42, .int .i64 d), (Operand.const (Value.int IntKind.i64 0), Value.int IntKind.i64 0)] (by kernel_rfl) (by kernel_rfl) (by kernel_rfl) (fun o ho ρ h w hS => by have h1 := h _ (.head _); have h2 := h _ (.tail _ (.head _)); simp only at h1 h2; clear h; unfold execOp; simp only [ho, h1, h2]; have e := beq_of HZ.out.1; go_simp) ?_
  refine Rg.move C 9 44 1023 (.int .i64 x) (by kernel_rfl) (by kernel_rfl) ?_
  refine Rg.move C 10 45 2047 (.int .i64 y) (by kernel_rfl) (by kernel_rfl) ?_
  refine Rg.gen C hS 11 46 4095 (.bool b0) (Op.binOp BinOp.eql 3 (Operand.tmp 44) (Operand.tmp 45) 3) [(Operand.tmp 44, .int .i64 x), (Operand.tmp 45, .int .i64 y)] (by kernel_rfl) (by kernel_rfl) (by kernel_rfl) (fun o ho ρ h w hS => by have h1 := h _ (.head _); have h2 := h _ (.tail _ (.head _)); simp only at h1 h2; clear h; unfold execOp; simp only [ho, h1, h2]; have e := beq_of HZ.out.2; go_simp) ?_
  refine Rg.gen C hS 12 47 8191 (.bool true) (Op.binOp BinOp.eql 4 (Operand.tmp 43) (Operand.tmp 46) 4) [(Operand.tmp 43, .bool b0), (Operand.tmp 46, .bool b0)] (by kernel_rfl) (by kernel_rfl) (by kernel_rfl) (fun o ho ρ h w hS => by have h1 := h _ (.head _); have h2 := h _ (.tail _ (.head _)); simp only at h1 h2; clear h; unfold execOp; simp only [ho, h1, h2]; go_simp) ?_
  refine Rg.pick C 13 48 16383 (.bool true) (by kernel_rfl) (by kernel_rfl) ?_
  refine Rg.move C 14 49 32767 (.bool true) (by kernel_rfl) (by kernel_rfl) ?_
  refine Rg.move C 15 50 65535 (.int .i64 d) (by kernel_rfl) (by kernel_rfl) ?_
  refine Rg.gen C hS 16 51 131071 (.bool b1) (Op.binOp BinOp.eql 3 (Operand.tmp 50) (Operand.const (Value.int IntKind.i64 1)) 3) [(Operand.tmp 50, .int .i64 d), (Operand.const (Value.int IntKind.i64 1), Value.int IntKind.i64 1)] (by kernel_rfl) (by kernel_rfl) (by kernel_rfl) (fun o ho ρ h w hS => by have h1 := h _ (.head _); have h2 := h _ (.tail _ (.head _)); simp only at h1 h2; clear h; unfold execOp; simp only [ho, h1, h2]; have e := beq_of H1.out.1; go_simp) ?_
  refine Rg.gen C hS 17 52 262143 (.agg #[.int .i64 N, .slice A n c2]) (Op.load 27 (Operand.tmp 9)) [(Operand.tmp 9, .pointer (some ⟨g, 0, none⟩))] (by kernel_rfl) (by kernel_rfl) (by kernel_rfl) (fun o ho ρ h w hS => by have h1 := h _ (.head _); simp only at h1; clear h; unfold execOp; simp only [ho, h1]; obtain ⟨c0, c1, _, _⟩ := LD.out _ hS; go_simp) ?_
  refine Rg.move C 18 53 524287 (.int .i64 x) (by kernel_rfl) (by kernel_rfl) ?_
  refine Rg.move C 19 54 1048575 (.int .i64 y) (by kernel_rfl) (by kernel_rfl) ?_
  refine Rg.call C 20 55 2097151 #[.agg #[.int .i64 N, .slice A n c2], .int .i64 x, .int .i64 y] (by kernel_rfl) Tryd.func30 (by kernel_rfl) rfl (by kernel_rfl) ?_
  refine (linked_at N x y A n c2 ls _ b1 (LD.out _ hS).2.2.1 HC.out.1 HL.out.1 HL.out.2 H1.out.2).mono ?_
  rintro e w' ⟨rfl, hb⟩
  have hSn := below_step hS hb
  clear hS hb
  have hS := hSn
  clear hSn
  refine ⟨_, rfl, hS, ?_⟩
  refine Rg.gen C hS 21 56 4194303 (.bool true) (Op.binOp BinOp.eql 4 (Operand.tmp 51) (Operand.tmp 55) 4) [(Operand.tmp 51, .bool b1), (Operand.tmp 55, .bool b1)] (by kernel_rfl) (by kernel_rfl) (by kernel_rfl) (fun o ho ρ h w hS => by have h1 := h _ (.head _); have h2 := h _ (.tail _ (.head _)); simp only at h1 h2; clear h; unfold execOp; simp only [ho, h1, h2]; go_simp) ?_
  refine Rg.pick C 22 57 8388607 (.bool true) (by kernel_rfl) (by kernel_rfl) ?_
  refine Rg.move C 23 58 16777215 (.bool true) (by kernel_rfl) (by kernel_rfl) ?_
  refine Rg.move C 24 59 33554431 (.int .i64 d) (by kernel_rfl) (by kernel_rfl) ?_
  refine Rg.gen C hS 25 60 67108863 (.agg #[.int .i64 N, .slice A n c2]) (Op.load 27 (Operand.tmp 9)) [(Operand.tmp 9, .pointer (some ⟨g, 0, none⟩))] (by kernel_rfl) (by kernel_rfl) (by kernel_rfl) (fun o ho ρ h w hS => by have h1 := h _ (.head _); simp only at h1; clear h; unfold execOp; simp only [ho, h1]; obtain ⟨c0, c1, _, _⟩ := LD.out _ hS; go_simp) ?_
  refine Rg.move C 26 61 134217727 (.int .i64 x) (by kernel_rfl) (by kernel_rfl) ?_
  refine Rg.move C 27 62 268435455 (.int .i64 z) (by kernel_rfl) (by kernel_rfl) ?_
  refine Rg.gen C hS 29 64 805306367 (.agg #[.int .i64 N, .slice A n c2]) (Op.load 27 (Operand.tmp 9)) [(Operand.tmp 9, .pointer (some ⟨g, 0, none⟩))] (by kernel_rfl) (by kernel_rfl) (by kernel_rfl) (fun o ho ρ h w hS => by have h1 := h _ (.head _); simp only at h1; clear h; unfold execOp; simp only [ho, h1]; obtain ⟨c0, c1, _, _⟩ := LD.out _ hS; go_simp) ?_
  refine Rg.move C 30 65 1879048191 (.int .i64 z) (by kernel_rfl) (by kernel_rfl) ?_
  refine Rg.move C 31 66 4026531839 (.int .i64 y) (by kernel_rfl) (by kernel_rfl) ?_
  refine Rg.call C 28 63 4294967295 #[.agg #[.int .i64 N, .slice A n c2], .int .i64 x, .int .i64 z] (by kernel_rfl) Tryd.func28 (by kernel_rfl) rfl (by kernel_rfl) ?_
  refine (far_at N x z A n c2 ls _ (LD.out _ hS).2.2.1 HC.out.1 HC.out.2.1 HC.out.2.2).mono ?_
  rintro e w' ⟨r3, rfl, hF3, hb⟩
  have HF3 := Aside0.mk (far_nat HR.out HX.out HZZ.out hF3)
  have HG3 := Aside0.mk hF3
  clear hF3
  have hSn := below_step hS hb
  clear hS hb
  have hS := hSn
  clear hSn
  refine ⟨_, rfl, hS, ?_⟩
  refine Rg.call C 32 67 8589934591 #[.agg #[.int .i64 N, .slice A n c2], .int .i64 z, .int .i64 y] (by kernel_rfl) Tryd.func28 (by kernel_rfl) rfl (by kernel_rfl) ?_
  refine (far_at N z y A n c2 ls _ (LD.out _ hS).2.2.1 HC.out.1 HC.out.2.1 HC.out.2.2).mono ?_
  rintro e w' ⟨r4, rfl, hF4, hb⟩
  have HF4 := Aside0.mk (far_nat HR.out HZZ.out HY.out hF4)
  have HT := Aside0.mk (far_tri HR.out HX.out HY.out HZZ.out HD.out HG3.out hF4)
  clear hF4
  have hSn := below_step hS hb
  clear hS hb
  have hS := hSn
  clear hSn
  refine ⟨_, rfl, hS, ?_⟩
  refine Rg.gen C hS 33 68 17179869183 (.int .i64 (r3 + r4)) (Op.binOp BinOp.add 3 (Operand.tmp 63) (Operand.tmp 67) 3) [(Operand.tmp 63, .int .i64 r3), (Operand.tmp 67, .int .i64 r4)] (by kernel_rfl) (by kernel_rfl) (by kernel_rfl) (fun o ho ρ h w hS => by have h1 := h _ (.head _); have h2 := h _ (.tail _ (.head _)); simp only at h1 h2; clear h; unfold execOp; simp only [ho, h1, h2]; have e := IntWalk.i64_in (r3 + r4) (by have := HF3.out; have := HF4.out; omega); go_simp) ?_
  refine Rg.gen C hS 34 69 34359738367 (.bool true) (Op.binOp BinOp.leq 3 (Operand.tmp 59) (Operand.tmp 68) 3) [(Operand.tmp 59, .int .i64 d), (Operand.tmp 68, .int .i64 (r3 + r4))] (by kernel_rfl) (by kernel_rfl) (by kernel_rfl) (fun o ho ρ h w hS => by have h1 := h _ (.head _); have h2 := h _ (.tail _ (.head _)); simp only at h1 h2; clear h; unfold execOp; simp only [ho, h1, h2]; have e : decide (d ≤ r3 + r4) = true := decide_eq_true HT.out; go_simp) ?_
  refine Rg.pick C 35 70 68719476735 (.bool true) (by kernel_rfl) (by kernel_rfl) ?_
  refine Rg.move C 36 71 137438953471 (.bool true) (by kernel_rfl) (by kernel_rfl) ?_
  refine Rg.move C 37 72 274877906943 (.int .i64 d) (by kernel_rfl) (by kernel_rfl) ?_
  refine Rg.gen C hS 38 73 549755813887 (.pointer (some ⟨g, 0, none⟩)) (Op.fieldAddr 27 (Operand.tmp 9) 0) [(Operand.tmp 9, .pointer (some ⟨g, 0, none⟩))] (by kernel_rfl) (by kernel_rfl) (by kernel_rfl) (fun o ho ρ h w hS => by have h1 := h _ (.head _); simp only at h1; clear h; unfold execOp; simp only [ho, h1]; go_simp) ?_
  refine Rg.gen C hS 39 74 1099511627775 (.int .i64 N) (Op.load 3 (Operand.tmp 73)) [(Operand.tmp 73, .pointer (some ⟨g, 0, none⟩))] (by kernel_rfl) (by kernel_rfl) (by kernel_rfl) (fun o ho ρ h w hS => by have h1 := h _ (.head _); simp only at h1; clear h; unfold execOp; simp only [ho, h1]; obtain ⟨c0, c1, _, _⟩ := LD.out _ hS; go_simp) ?_
  refine Rg.gen C hS 40 75 2199023255551 (.bool true) (Op.binOp BinOp.lss 3 (Operand.tmp 72) (Operand.tmp 74) 3) [(Operand.tmp 72, .int .i64 d), (Operand.tmp 74, .int .i64 N)] (by kernel_rfl) (by kernel_rfl) (by kernel_rfl) (fun o ho ρ h w hS => by have h1 := h _ (.head _); have h2 := h _ (.tail _ (.head _)); simp only at h1 h2; clear h; unfold execOp; simp only [ho, h1, h2]; have e : decide (d < N) = true := decide_eq_true HDN.out.2; go_simp) ?_
  refine Rg.pick C 41 76 4398046511103 (.bool true) (by kernel_rfl) (by kernel_rfl) ?_
  refine Rg.move C 42 77 8796093022207 (.bool true) (by kernel_rfl) (by kernel_rfl) ?_
  refine Rg.gen C hS 43 78 17592186044415 (.agg #[.int .i64 N, .slice A n c2]) (Op.load 27 (Operand.tmp 9)) [(Operand.tmp 9, .pointer (some ⟨g, 0, none⟩))] (by kernel_rfl) (by kernel_rfl) (by kernel_rfl) (fun o ho ρ h w hS => by have h1 := h _ (.head _); simp only at h1; clear h; unfold execOp; simp only [ho, h1]; obtain ⟨c0, c1, _, _⟩ := LD.out _ hS; go_simp) ?_
  refine Rg.move C 44 79 35184372088831 (.int .i64 x) (by kernel_rfl) (by kernel_rfl) ?_
  refine Rg.gen C hS 45 80 70368744177663 (.pointer (some ⟨g, 0, none⟩)) (Op.fieldAddr 27 (Operand.tmp 9) 0) [(Operand.tmp 9, .pointer (some ⟨g, 0, none⟩))] (by kernel_rfl) (by kernel_rfl) (by kernel_rfl) (fun o ho ρ h w hS => by have h1 := h _ (.head _); simp only at h1; clear h; unfold execOp; simp only [ho, h1]; go_simp) ?_
  refine Rg.gen C hS 46 81 140737488355327 (.int .i64 N) (Op.load 3 (Operand.tmp 80)) [(Operand.tmp 80, .pointer (some ⟨g, 0, none⟩))] (by kernel_rfl) (by kernel_rfl) (by kernel_rfl) (fun o ho ρ h w hS => by have h1 := h _ (.head _); simp only at h1; clear h; unfold execOp; simp only [ho, h1]; obtain ⟨c0, c1, _, _⟩ := LD.out _ hS; go_simp) ?_
  refine Rg.call C 47 82 281474976710655 #[.agg #[.int .i64 N, .slice A n c2], .int .i64 x, .int .i64 N] (by kernel_rfl) Tryd.func28 (by kernel_rfl) rfl (by kernel_rfl) ?_
  refine (far_at N x N A n c2 ls _ (LD.out _ hS).2.2.1 HC.out.1 HC.out.2.1 HC.out.2.2).mono ?_
  rintro e w' ⟨r5, rfl, hF, hb⟩
  obtain rfl := far_out hF
  clear hF
  have hSn := below_step hS hb
  clear hS hb
  have hS := hSn
  clear hSn
  refine ⟨_, rfl, hS, ?_⟩
  refine Rg.gen C hS 48 83 562949953421311 (.bool true) (Op.binOp BinOp.eql 3 (Operand.tmp 82) (Operand.const (Value.int IntKind.i64 (-1))) 3) [(Operand.tmp 82, .int .i64 (-1)), (Operand.const (Value.int IntKind.i64 (-1)), Value.int IntKind.i64 (-1))] (by kernel_rfl) (by kernel_rfl) (by kernel_rfl) (fun o ho ρ h w hS => by have h1 := h _ (.head _); have h2 := h _ (.tail _ (.head _)); simp only at h1 h2; clear h; unfold execOp; simp only [ho, h1, h2]; go_simp) ?_
  refine Rg.pick C 49 84 1125899906842623 (.bool true) (by kernel_rfl) (by kernel_rfl) ?_
  refine Rg.move C 50 85 2251799813685247 (.bool true) (by kernel_rfl) (by kernel_rfl) ?_
  refine Rg.gen C hS 51 86 4503599627370495 (.agg #[.int .i64 N, .slice A n c2]) (Op.load 27 (Operand.tmp 9)) [(Operand.tmp 9, .pointer (some ⟨g, 0, none⟩))] (by kernel_rfl) (by kernel_rfl) (by kernel_rfl) (fun o ho ρ h w hS => by have h1 := h _ (.head _); simp only at h1; clear h; unfold execOp; simp only [ho, h1]; obtain ⟨c0, c1, _, _⟩ := LD.out _ hS; go_simp) ?_
  refine Rg.move C 52 87 9007199254740991 (.int .i64 x) (by kernel_rfl) (by kernel_rfl) ?_
  refine Rg.call C 53 88 18014398509481983 #[.agg #[.int .i64 N, .slice A n c2], Value.int IntKind.i64 (-1), .int .i64 x] (by kernel_rfl) Tryd.func28 (by kernel_rfl) rfl (by kernel_rfl) ?_
  refine (far_at N (-1) x A n c2 ls _ (LD.out _ hS).2.2.1 HC.out.1 HC.out.2.1 HC.out.2.2).mono ?_
  rintro e w' ⟨r6, rfl, hF, hb⟩
  obtain rfl := far_neg hF
  clear hF
  have hSn := below_step hS hb
  clear hS hb
  have hS := hSn
  clear hSn
  refine ⟨_, rfl, hS, ?_⟩
  refine Rg.gen C hS 54 89 36028797018963967 (.bool true) (Op.binOp BinOp.eql 3 (Operand.tmp 88) (Operand.const (Value.int IntKind.i64 (-1))) 3) [(Operand.tmp 88, .int .i64 (-1)), (Operand.const (Value.int IntKind.i64 (-1)), Value.int IntKind.i64 (-1))] (by kernel_rfl) (by kernel_rfl) (by kernel_rfl) (fun o ho ρ h w hS => by have h1 := h _ (.head _); have h2 := h _ (.tail _ (.head _)); simp only at h1 h2; clear h; unfold execOp; simp only [ho, h1, h2]; go_simp) ?_
  refine Rg.pick C 55 90 72057594037927935 (.bool true) (by kernel_rfl) (by kernel_rfl) ?_
  refine Rg.move C 56 91 144115188075855871 (.bool true) (by kernel_rfl) (by kernel_rfl) ?_
  refine Rg.call C 57 92 288230376151711743 #[] (by kernel_rfl) Tryd.func6 (by kernel_rfl) rfl (by kernel_rfl) ?_
  refine (runs_calls _ (LD.out _ hS).2.2.2).mono ?_
  rintro e w' ⟨rfl, hb⟩
  have hSn := below_step hS hb
  clear hS hb
  have hS := hSn
  clear hSn
  refine ⟨_, rfl, hS, ?_⟩
  refine Rg.pick C 58 93 576460752303423487 (.bool true) (by kernel_rfl) (by kernel_rfl) ?_
  refine Rg.move C 59 8 1152921504606846975 (.bool true) (by kernel_rfl) (by kernel_rfl) ?_
  refine Rg.done C (by kernel_rfl) (fun a hF => HE.out _ _ ?_)
  go_wp2_with fail
  exact bodyPost_ret (results_tmp rfl _ _ _) hF.defers ⟨by rw [hF.get 8 (by kernel_rfl)]; rfl, below_step HBW.out hS⟩
end Go.Proofs.YtfkkefhijhjaaaaDoor.Gr
