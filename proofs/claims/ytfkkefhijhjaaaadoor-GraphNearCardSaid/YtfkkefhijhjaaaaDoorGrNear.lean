import Derived.Test.YtfkkefhijhjaaaaDoorGrT
namespace Go.Proofs.YtfkkefhijhjaaaaDoor.Gr
open Go.RowKit Go.Proofs.YtfkkefhijhjaaaaDoorW.PrintWords Go.Proofs.YtfkkefhijhjaaaaDoorW.PrintLast Go.Proofs.YtfkkefhijhjaaaaDoorW.PrintMore
set_option linter.unusedVariables false
set_option linter.unusedSimpArgs false
noncomputable def neaA : Array Oper := opsOf Tryd.f10 7
noncomputable def neaAt : List Rg.Ent := [⟨0, 0, some 35, none, Op.move (Operand.tmp 1)⟩,
  ⟨0, 0, some 36, none, Op.move (Operand.tmp 7)⟩,
  ⟨3, 3, some 37, none, Op.indexAddr 44 (Operand.tmp 35) (Operand.tmp 36)⟩,
  ⟨4, 4, some 38, none, Op.load 3 (Operand.tmp 37)⟩,
  ⟨0, 0, some 39, none, Op.fieldAddr 27 (Operand.tmp 6) 1⟩,
  ⟨16, 16, some 40, none, Op.load 25 (Operand.tmp 39)⟩,
  ⟨32, 32, some 41, none, Op.call { callee := Callee.builtin Builtin.len, args := #[Operand.tmp 40], argTypes := #[25] }⟩,
  ⟨64, 64, some 42, none, Op.binOp BinOp.sub 3 (Operand.tmp 41) (Operand.const (Value.int IntKind.i64 1)) 3⟩,
  ⟨136, 136, some 43, none, Op.call { callee := Callee.value (Operand.func 20), args := #[Operand.tmp 38, Operand.const (Value.int IntKind.i64 0), Operand.tmp 42], argTypes := #[3, 3, 3] }⟩,
  ⟨511, 256, some 8, none, Op.assign (Operand.tmp 43)⟩]
theorem neaAT : Rg.Tabd .any neaA 10 neaAt := ⟨by kernel_rfl, by kernel_rfl, by kernel_rfl⟩
noncomputable def neaB : Array Oper := opsOf Tryd.f10 9
noncomputable def neaBt : List Rg.Ent := [⟨0, 0, some 49, none, Op.indexAddr 24 (Operand.tmp 9) (Operand.const (Value.int IntKind.i64 1))⟩,
  ⟨1, 1, some 50, none, Op.load 3 (Operand.tmp 49)⟩,
  ⟨0, 0, some 51, none, Op.indexAddr 24 (Operand.tmp 9) (Operand.const (Value.int IntKind.i64 0))⟩,
  ⟨4, 4, some 52, none, Op.load 3 (Operand.tmp 51)⟩,
  ⟨10, 10, some 53, none, Op.build 24 #[(0, Operand.tmp 50), (1, Operand.tmp 52)]⟩,
  ⟨16, 16, some 54, none, Op.buildSlice 25 1 #[(0, Operand.tmp 53)]⟩,
  ⟨0, 0, some 55, none, Op.fieldAddr 27 (Operand.tmp 6) 1⟩,
  ⟨64, 64, some 56, none, Op.load 25 (Operand.tmp 55)⟩,
  ⟨0, 0, some 57, none, Op.move (Operand.tmp 8)⟩,
  ⟨384, 384, some 58, none, Op.slice 25 (Operand.tmp 56) none (some (Operand.tmp 57)) none⟩,
  ⟨544, 544, some 59, none, Op.call { callee := Callee.builtin Builtin.append, args := #[Operand.tmp 54, Operand.tmp 58], argTypes := #[25, 25] }⟩,
  ⟨0, 0, some 60, none, Op.fieldAddr 27 (Operand.tmp 6) 1⟩,
  ⟨2048, 2048, some 61, none, Op.load 25 (Operand.tmp 60)⟩,
  ⟨0, 0, some 62, none, Op.move (Operand.tmp 8)⟩,
  ⟨8192, 8192, some 63, none, Op.binOp BinOp.add 3 (Operand.tmp 62) (Operand.const (Value.int IntKind.i64 1)) 3⟩,
  ⟨20480, 20480, some 64, none, Op.slice 25 (Operand.tmp 61) (some (Operand.tmp 63)) none none⟩,
  ⟨33792, 33792, some 65, none, Op.call { callee := Callee.builtin Builtin.append, args := #[Operand.tmp 59, Operand.tmp 64], argTypes := #[25, 25] }⟩,
  ⟨131071, 0, some 66, none, Op.fieldAddr 27 (Operand.tmp 6) 1⟩,
  ⟨262143, 196608, none, none, Op.store 25 (Operand.tmp 66) (Operand.tmp 65)⟩]
theorem neaBT : Rg.Tabd .any neaB 19 neaBt := ⟨by kernel_rfl, by kernel_rfl, by kernel_rfl⟩
noncomputable def neaC : Array Oper := opsOf Tryd.f10 25
noncomputable def neaCt : List Rg.Ent := [⟨0, 0, some 117, none, Op.load 27 (Operand.tmp 6)⟩,
  ⟨1, 1, some 118, none, Op.call { callee := Callee.value (Operand.func 25), args := #[Operand.tmp 117], argTypes := #[27] }⟩,
  ⟨2, 2, some 119, none, Op.binOp BinOp.eql 29 (Operand.tmp 118) (Operand.const Value.nilIface) 29⟩,
  ⟨6, 4, some 120, none, Op.move (Operand.tmp 119)⟩,
  ⟨8, 8, some 121, some (120, true), Op.load 27 (Operand.tmp 6)⟩,
  ⟨24, 24, some 122, some (120, true), Op.call { callee := Callee.value (Operand.func 19), args := #[Operand.tmp 121], argTypes := #[27] }⟩,
  ⟨8, 8, some 123, some (120, true), Op.load 27 (Operand.tmp 5)⟩,
  ⟨104, 72, some 124, some (120, true), Op.call { callee := Callee.value (Operand.func 19), args := #[Operand.tmp 123], argTypes := #[27] }⟩,
  ⟨168, 168, some 125, some (120, true), Op.call { callee := Callee.value (Operand.func 32), args := #[Operand.tmp 122, Operand.tmp 124], argTypes := #[25, 25] }⟩,
  ⟨264, 264, some 126, none, Op.pick (Operand.tmp 120) (Operand.tmp 125) (Operand.const (Value.bool false))⟩,
  ⟨768, 512, some 127, none, Op.move (Operand.tmp 126)⟩,
  ⟨1024, 1024, some 128, some (127, true), Op.move (Operand.tmp 10)⟩,
  ⟨1024, 1024, some 129, some (127, true), Op.load 27 (Operand.tmp 5)⟩,
  ⟨5120, 5120, some 130, some (127, true), Op.call { callee := Callee.value (Operand.func 19), args := #[Operand.tmp 129], argTypes := #[27] }⟩,
  ⟨9216, 9216, some 131, some (127, true), Op.call { callee := Callee.builtin Builtin.len, args := #[Operand.tmp 130], argTypes := #[25] }⟩,
  ⟨19456, 19456, some 132, some (127, true), Op.binOp BinOp.eql 3 (Operand.tmp 128) (Operand.tmp 131) 3⟩,
  ⟨33792, 33792, some 133, none, Op.pick (Operand.tmp 127) (Operand.tmp 132) (Operand.const (Value.bool false))⟩,
  ⟨73728, 65536, some 134, none, Op.move (Operand.tmp 133)⟩,
  ⟨131072, 131072, some 135, some (134, true), Op.call { callee := Callee.value (Operand.func 6), args := #[], argTypes := #[] }⟩,
  ⟨393216, 393216, some 136, none, Op.pick (Operand.tmp 134) (Operand.tmp 135) (Operand.const (Value.bool false))⟩,
  ⟨1048575, 524288, some 4, none, Op.assign (Operand.tmp 136)⟩]
theorem neaCT : Rg.Tabd .any neaC 21 neaCt := ⟨by kernel_rfl, by kernel_rfl, by kernel_rfl⟩
theorem one24 (xb xa : Int) : (#[.int .i64 xb, .int .i64 xa] : Array Value) = Go.Sort.flatK enc2 2 [(xb, xa)].toArray := by
  apply Array.ext
  · simp [Go.Sort.flatK]
  · intro i h1 h2
    have h3 : i = 0 ∨ i = 1 := by simp at h1; omega
    rcases h3 with rfl | rfl <;> simp [Go.Sort.flatK, enc2]
/-- what the first loop keeps. -/
structure OI (W wr : World) (ob : Nat) (N : Int) (n : Nat) (ls lo : List (Int × Int)) (Ao : Option Addr) (co : Nat) : Prop where
  blk : wr.heap[ob]? = some (.cells #[.int .i64 N, .slice Ao n co] 27 (0, 0))
  row : Kd.C k24 wr Ao n lo
  cap : n ≤ co
  right : Right N lo
  alike : Alike ls lo
  bel : Below W.heap.size W wr
theorem OI.below {W wr w' : World} {ob : Nat} {N : Int} {n : Nat} {ls lo : List (Int × Int)} {Ao : Option Addr} {co : Nat} (h : OI W wr ob N n ls lo Ao co) (hb : Below wr.heap.size wr w') : OI W w' ob N n ls lo Ao co :=
  { h with blk := (hb.block _ (blk_lt h.blk)).trans h.blk, row := Kd.C_below h.row hb, bel := below_step h.bel hb }
def SM (N : Int) (ls : List (Int × Int)) (b : Nat) : Nat := ((nums b).map fun x => (near N ls x).length).sum
theorem SM_succ (N : Int) (ls : List (Int × Int)) (b : Nat) : SM N ls (b + 1) = SM N ls b + (near N ls (b : Int)).length := by
  unfold SM; rw [nums_succ]; simp
theorem SM_le (M : Nat) (ls : List (Int × Int)) : ∀ b, SM (M : Int) ls b ≤ b * M
  | 0 => by simp [SM, nums]
  | b + 1 => by
    rw [SM_succ, Nat.succ_mul]
    have := SM_le M ls b
    have := (near_is (M : Int) ls (b : Int)).len
    omega
theorem SM_all {M : Nat} {ls l : List (Int × Int)} (h : IsWays (M : Int) ls l) : SM (M : Int) ls M = l.length := by
  have e := ways_pairs h (f := fun b => near (M : Int) ls b) (fun b _ _ => near_is _ _ _)
  rw [← e, len_pairs]
  rfl
theorem ways_eq (N : Int) (A : Option Addr) (n c m : Nat) (ls lo l : List (Int × Int)) (w : World) (hr : Kd.C k24 w A n lo) (hc : n ≤ c) (hR : Right N lo) (hA : Alike ls lo) (hl : IsWays N ls l) (hm : l.length = m) :
    Calls Tryd.prog 19 #[.agg #[.int .i64 N, .slice A n c]] w fun e w' => ∃ (A2 : Option Addr) (c2 : Nat), e = .returned (.slice A2 m c2) ∧ Kd.C k24 w' A2 m l ∧ Below w.heap.size w w' := by
  refine (ways_at N A n c lo w hr hc hR).mono ?_
  rintro e w' ⟨l2, A2, c2, rfl, hW, hO, hB⟩
  obtain rfl := hl.uniq hW (fun x y => hA.adj x y)
  obtain ⟨_, _, hC⟩ := Kd.R_reads' hO
  subst hm
  exact ⟨A2, c2, rfl, hC, hB⟩
theorem rise_int {l : List Int} (h : l.Pairwise (· < ·)) {j : Nat} {x y : Int} (hy : l[j]? = some y) (hx : l[j + 1]? = some x) : y < x := by
  obtain ⟨hj, rfl⟩ := List.getElem?_eq_some_iff.mp hy
  obtain ⟨hi, rfl⟩ := List.getElem?_eq_some_iff.mp hx
  exact List.pairwise_iff_getElem.mp h j (j + 1) hj hi (by omega)
set_option maxHeartbeats 8000000 in
set_option maxRecDepth 100000 in
theorem Near.walk (B : Int) (AU AM : Option Addr) (cU cM : Nat) (us ms : List Int) (AO : Option Addr) (cO : Nat) (os : List Int) (w : World) (HTYP : Aside0 (Er.Typ w)) (hu : Kd.C (Kd.int .i64) w AU us.length us) (hm : Kd.C (Kd.int .i64) w AM ms.length ms) (ho : Kd.C (Kd.int .i64) w AO os.length os) (hq : os.length ≤ cO) :
    Calls Tryd.prog 10 #[.agg #[.int .i64 B, .slice AU us.length cU, .slice AM ms.length cM], .slice AO os.length cO] w fun e w' => e = .returned (.bool true) ∧ Below w.heap.size w w' := by
  have FO := Aside0.mk ho
  have HOS : Aside0 (os.length ≤ 9223372036854775807) := ⟨ho.2.1⟩
  clear ho hq
  obtain ⟨ol, hol⟩ : ∃ ol, os.length = ol := ⟨_, rfl⟩
  have HOL := Aside0.mk hol
  rw [hol] at FO HOS ⊢
  clear hol
  have FU := Aside0.mk hu
  have FM := Aside0.mk hm
  clear hu hm
  go_enter Tryd.func10, Tryd.ntmps10
  go_upto_region 2 with ((go_at_call 18; (with_reducible refine (graph_calls B AU AM cU cM us ms _ (Kd.C_alloc FU.out _) (Kd.C_alloc FM.out _)).mono ?_); rintro e w2 ⟨N, ls, A, c2, rfl, hR, hN, hl, hC, hc, hB⟩; obtain ⟨n, hn⟩ : ∃ n, ls.length = n := ⟨_, rfl⟩; rw [hn] at hl hC hc ⊢; have HR := Aside0.mk hR; have HN := Aside0.mk hN; have HCC := Aside0.mk (And.intro hC (And.intro hc (And.intro hl hn))); have HB := Aside0.mk hB; clear hR hN hl hC hc hB hn))
  have hL : (w2.alloc (Obj.cells #[.int .i64 N, .slice A n c2] 27)).heap[w2.heap.size]? = some (.cells #[.int .i64 N, .slice A n c2] 27 (0, 0)) := heap_alloc_new w2 _
  have hBW : Below w.heap.size w (w2.alloc (Obj.cells #[.int .i64 N, .slice A n c2] 27)) := below_alloc (below_step (below_alloc (Below.refl _ _) _) HB.out) _
  have hCW : Kd.C k24 (w2.alloc (Obj.cells #[.int .i64 N, .slice A n c2] 27)) A n ls := Kd.C_alloc HCC.out.1 _
  generalize w2.alloc (Obj.cells #[.int .i64 N, .slice A n c2] 27) = W at hL hBW hCW ⊢
  generalize w2.heap.size = g at hL ⊢
  have HBW := Aside0.mk hBW
  have LD : Aside0 (∀ w', Below W.heap.size W w' → w'.cell? ⟨g, 0, none⟩ = some (.int .i64 N) ∧ w'.cell? ⟨g, 1, none⟩ = some (.slice A n c2) ∧ Kd.C k24 w' A n ls ∧ Er.Typ w') :=
    ⟨fun w' h => ⟨(h.cell (blk_lt hL)).trans ((blk_cell hL 0).trans rfl), (h.cell (blk_lt hL)).trans ((blk_cell hL 1).trans rfl), Kd.C_below hCW h, (HTYP.out.below hBW).below h⟩⟩
  have HC : Aside0 (n ≤ c2 ∧ n ≤ 1000000 ∧ N ≤ 1000000) := ⟨by have := HCC.out; have := HN.out; omega⟩
  have HL : Aside0 (n ≤ 1000 ∧ 0 ≤ N ∧ N ≤ 100) := ⟨by have := HCC.out; have := HN.out; omega⟩
  have HLN : Aside0 (ls.length = n ∧ n ≤ 15) := ⟨HCC.out.2.2.2, HCC.out.2.2.1⟩
  clear HCC HB hL hBW hCW
  have hN1 : 1 ≤ N := HN.out.1
  have hN7 : N ≤ 7 := HN.out.2
  have hg0 := (LD.out W (Below.refl _ _)).1
  have hg1 := (LD.out W (Below.refl _ _)).2.1
  obtain ⟨M, rfl⟩ : ∃ M : Nat, N = (M : Int) := ⟨N.toNat, (Int.toNat_of_nonneg (by omega)).symm⟩
  go_upto_region 3 with (fail)
  have hxo := heap_alloc_new W (.cells #[.int .i64 (M : Int), .slice A n c2] 27)
  have hbA : Below W.heap.size W (W.alloc (.cells #[.int .i64 (M : Int), .slice A n c2] 27)) := below_alloc (Below.refl _ _) _
  generalize W.alloc (Obj.cells #[.int .i64 (M : Int), .slice A n c2] 27) = W1 at hxo hbA ⊢
  obtain ⟨ob, hob⟩ : ∃ ob, W.heap.size = ob := ⟨_, rfl⟩
  rw [hob] at hxo ⊢
  have HOB : Aside0 (W.heap.size ≤ ob) := ⟨by omega⟩
  have FO2 : Aside0 (∀ w', Below W.heap.size W w' → Kd.C (Kd.int .i64) w' AO ol os) := ⟨fun w' h => Kd.C_below FO.out (below_step HBW.out h)⟩
  have HC1 := Aside0.mk (LD.out W1 hbA).2.2.1
  have HXO := Aside0.mk hxo
  have HBA := Aside0.mk hbA
  have hlt1 := blk_lt hxo
  have HL2 : Aside0 ((([] : List (Int × Int)).length + n) * 16 ≤ 140737488355328) := ⟨by have := HL.out; simp; omega⟩
  clear hg0 hg1 hob hxo hbA
  have hg1 : (W1.alloc (Obj.cells #[] 24)).cell? ⟨g, 1, none⟩ = some (.slice A n c2) := (LD.out _ (below_alloc HBA.out _)).2.1
  have HLT := Aside0.mk hlt1
  clear hlt1
  go_upto_region 4 with (refine Kd.R_append_rows k24 (Rr := k24.K (W1.alloc (.cells #[] 24))) (w0 := W1) W1.heap.size rfl (.tmp 18) (.tmp 20) 25 24 (.agg #[.int .i64 0, .int .i64 0]) 16 rfl Tryd.underlying25 info24 rfl (by decide) (by omega) (.slice (some ⟨W1.heap.size, 0, none⟩) 0 0) [] ls A n c2 (fun _ => True) (fun _ => False) rfl rfl ?aO ?aR ?aM (fun _ hk => hk.elim) ?aF ?aB ?aS ?aL ?_; (case aO => exact R_empty24 W1 _ (Nat.le_refl _)); (case aR => exact Kd.C_below HC1.out (below_alloc (Below.refl _ _) _)); (case aM => exact (fun _ _ h => k24_open h ▸ k24_M)); (case aF => exact (fun _ _ => trivial)); (case aB => exact below_alloc (Below.refl _ _) _); (case aS => simp); (case aL => exact HL2.out); intro v3 w3 hO3 hB3 hg3 hv3; rw [List.nil_append] at hO3; obtain ⟨A4, c4, rfl⟩ := Kd.R_slice hO3; rw [HLN.out.1] at hO3 hv3 ⊢; have hx3 := (hB3.block ob HLT.out).trans HXO.out; have hfr := blk_frozen hx3 1; have hcl : w3.cell? ⟨ob, 1, none⟩ = some (.slice A n c2) := (blk_cell hx3 1).trans rfl; have HO3 := Aside0.mk hO3; have HB3 := Aside0.mk hB3; have HX3 := Aside0.mk hx3; clear hO3 hB3 hg3 hv3 hx3)
  have hOI : OI W (w3.setCell ⟨ob, 1, none⟩ (.slice A4 n c4)) ob (M : Int) n ls ls A4 c4 := by
    have hr := Kd.R_set HO3.out HX3.out (fun q hq => by simp [k24_E] at hq; subst hq; decide) 1 (.slice A4 n c4)
    obtain ⟨_, h2, h3⟩ := Kd.R_reads' hr
    rw [HLN.out.1] at h3
    exact ⟨by simpa using blk_set HX3.out 1 (.slice A4 n c4), h3, h2, HR.out, fun _ => Iff.rfl, (below_step HBA.out HB3.out).setCell HOB.out _⟩
  generalize w3.setCell ⟨ob, 1, none⟩ (.slice A4 n c4) = Wl at hOI ⊢
  have HOI := Aside0.mk hOI
  have hn3 := HL.out.1
  clear hOI hfr hcl hg1
  go_upto_block 0 with (fail)
  go_cut [7] (fun s7 wq => ∃ (lo : List (Int × Int)) (Ao : Option Addr) (co : Nat), Aside0 (OI W wq ob (M : Int) n ls lo Ao co))
  case first =>
    go_wp2_with fail
    go_loopg [7] ol (fun q s7 wr => ∃ (i : Nat) (lo : List (Int × Int)) (Ao : Option Addr) (co : Nat), s7 = .int .i64 (i : Int) ∧ Aside0 (q + i = ol) ∧ Aside0 (OI W wr ob (M : Int) n ls lo Ao co))
    case atStart => exact ⟨0, ls, A4, c4, rfl, ⟨by omega⟩, HOI⟩
    case round =>
      obtain ⟨i, lo, Ao, co, rfl, HQ, HI⟩ := hrel
      have ho1 : wr.cell? ⟨ob, 1, none⟩ = some (.slice Ao n co) := (blk_cell HI.out.blk 1).trans rfl
      by_cases hgo : i < ol ∧ 1 < n
      · skip
        obtain ⟨h1, h2⟩ := hgo
        have d1 : decide ((i : Int) < (ol : Int)) = true := decide_eq_true (by omega)
        have d2 : decide ((1 : Int) < (n : Int)) = true := decide_eq_true (by omega)
        go_upto_region 7 with (fail)
        obtain ⟨x, hx⟩ : ∃ x, os[i]? = some x := ⟨_, List.getElem?_eq_getElem (by rw [HOL.out]; exact h1)⟩
        obtain ⟨ado, hao, hcx⟩ := at_int (FO2.out wr HI.out.bel) hx
        cases hao
        have LX : Aside0 (∀ w', Below wr.heap.size wr w' → w'.cell? ⟨ob, 0, none⟩ = some (.int .i64 (M : Int)) ∧ w'.cell? ⟨ob, 1, none⟩ = some (.slice Ao n co) ∧ w'.cell? (ado.add i) = some (.int .i64 x)) := ⟨fun w' h => by
          have h2 := HI.out.below h
          refine ⟨(blk_cell h2.blk 0).trans rfl, (blk_cell h2.blk 1).trans rfl, ?_⟩
          obtain ⟨ad', ea, hc⟩ := at_int (FO2.out w' h2.bel) hx
          cases ea
          exact hc⟩
        have hjr := wi_rng x (lo := 0) (hi := (n : Int) - 1) (by omega)
        obtain ⟨j, hj⟩ : ∃ j : Nat, wi x 0 ((n : Int) - 1) = (j : Int) := ⟨(wi x 0 ((n : Int) - 1)).toNat, (Int.toNat_of_nonneg hjr.1).symm⟩
        rw [hj] at hjr
        have hjn : j < n := by omega
        have WJ : Aside0 (∀ W', Calls Tryd.prog 20 #[.int .i64 x, .int .i64 0, .int .i64 ((n : Int) - 1)] W' fun e w' => e = .returned (.int .i64 (j : Int)) ∧ W' = w') := ⟨fun W' => by rw [← hj]; exact within_val x 0 ((n : Int) - 1) W' (by omega) (by omega) (by omega)⟩
        have en1 : IntKind.i64.wrap ((n : Int) - 1) = (n : Int) - 1 := IntWalk.i64_in _ (by omega)
        have hi0 : (0 : Int) ≤ (i : Int) := by omega
        have hi1 : (i : Int) < (ol : Int) := by omega
        clear ho1 hcx hx hj hjr
        refine Rg.start neaA (fun w' => Below wr.heap.size wr w') 137 10 17557826306304 [(1, .slice (some ado) ol cO), (6, .pointer (some ⟨ob, 0, none⟩)), (7, .int .i64 (i : Int))] neaAt (by kernel_rfl) (by kernel_rfl) neaAT (by decide) (fun c a a' w e h => ⟨e ▸ h.1, h.2⟩) (by kernel_rfl) ⟨rfl, rfl, rfl, trivial⟩ (below_drew (Below.refl _ _)) (fun Q' C HE hS => ?_)
        have hb0 : Below wr.heap.size wr wr.drew := below_drew (Below.refl _ _)
        generalize wr.drew = V0 at hb0 hS ⊢
        refine Rg.move C 0 35 1 (.slice (some ado) ol cO) (by kernel_rfl) (by kernel_rfl) ?_
        refine Rg.move C 1 36 3 (.int .i64 (i : Int)) (by kernel_rfl) (by kernel_rfl) ?_
        refine Rg.gen C hS 2 37 7 (.pointer (some (ado.add i))) (Op.indexAddr 44 (Operand.tmp 35) (Operand.tmp 36)) [(Operand.tmp 35, .slice (some ado) ol cO), (Operand.tmp 36, .int .i64 (i : Int))] (by kernel_rfl) (by kernel_rfl) (by kernel_rfl) (fun o ho ρ h w hS => by have h1 := h _ (.head _); have h2 := h _ (.tail _ (.head _)); simp only at h1 h2; clear h; unfold execOp; simp only [ho, h1, h2]; go_simp) ?_
        refine Rg.gen C hS 3 38 15 (.int .i64 x) (Op.load 3 (Operand.tmp 37)) [(Operand.tmp 37, .pointer (some (ado.add i)))] (by kernel_rfl) (by kernel_rfl) (by kernel_rfl) (fun o ho ρ h w hS => by have h1 := h _ (.head _); simp only at h1; clear h; unfold execOp; simp only [ho, h1]; obtain ⟨k0, k1, k2⟩ := LX.out _ hS; go_simp) ?_
        refine Rg.gen C hS 4 39 31 (.pointer (some ⟨ob, 1, none⟩)) (Op.fieldAddr 27 (Operand.tmp 6) 1) [(Operand.tmp 6, .pointer (some ⟨ob, 0, none⟩))] (by kernel_rfl) (by kernel_rfl) (by kernel_rfl) (fun o ho ρ h w hS => by have h1 := h _ (.head _); simp only at h1; clear h; unfold execOp; simp only [ho, h1]; go_simp) ?_
        refine Rg.gen C hS 5 40 63 (.slice Ao n co) (Op.load 25 (Operand.tmp 39)) [(Operand.tmp 39, .pointer (some ⟨ob, 1, none⟩))] (by kernel_rfl) (by kernel_rfl) (by kernel_rfl) (fun o ho ρ h w hS => by have h1 := h _ (.head _); simp only at h1; clear h; unfold execOp; simp only [ho, h1]; obtain ⟨k0, k1, k2⟩ := LX.out _ hS; go_simp) ?_
        refine Rg.gen C hS 6 41 127 (.int .i64 (n : Int)) (Op.call { callee := Callee.builtin Builtin.len, args := #[Operand.tmp 40], argTypes := #[25] }) [(Operand.tmp 40, .slice Ao n co)] (by kernel_rfl) (by kernel_rfl) (by kernel_rfl) (fun o ho ρ h w hS => by have h1 := h _ (.head _); simp only at h1; clear h; unfold execOp; simp only [ho, h1]; go_simp) ?_
        refine Rg.gen C hS 7 42 255 (.int .i64 ((n : Int) - 1)) (Op.binOp BinOp.sub 3 (Operand.tmp 41) (Operand.const (Value.int IntKind.i64 1)) 3) [(Operand.tmp 41, .int .i64 (n : Int)), (Operand.const (Value.int IntKind.i64 1), Value.int IntKind.i64 1)] (by kernel_rfl) (by kernel_rfl) (by kernel_rfl) (fun o ho ρ h w hS => by have h1 := h _ (.head _); have h2 := h _ (.tail _ (.head _)); simp only at h1 h2; clear h; unfold execOp; simp only [ho, h1, h2]; go_simp) ?_
        refine Rg.call C 8 43 511 #[.int .i64 x, Value.int IntKind.i64 0, .int .i64 ((n : Int) - 1)] (by kernel_rfl) Tryd.func20 (by kernel_rfl) rfl (by kernel_rfl) ?_
        refine (WJ.out _).mono ?_
        rintro e w' ⟨rfl, rfl⟩
        refine ⟨_, rfl, hS, ?_⟩
        refine Rg.move C 9 8 1023 (.int .i64 (j : Int)) (by kernel_rfl) (by kernel_rfl) ?_
        refine Rg.done_set C [(8, some (.int .i64 (j : Int))), (35, none), (36, none), (37, none), (38, none), (39, none), (40, none), (41, none), (42, none), (43, none)] (by kernel_rfl) (by kernel_rfl) (by kernel_rfl) (by kernel_rfl) (by kernel_rfl) (fun u => HE.out _ _ ?_)
        simp only [Rg.sets, List.map_cons, List.map_nil, Option.getD_some, Option.getD_none, List.foldl_cons, List.foldl_nil]
        simp only [List.set_cons_succ, List.set_cons_zero]
        have HV := Aside0.mk (HI.out.below hb0)
        clear hS HE C hb0
        have hlj : lo.length = n := Kd.C_len HV.out.row
        obtain ⟨⟨xa, xb⟩, hxl⟩ : ∃ y, lo[j]? = some y := ⟨_, List.getElem?_eq_getElem (by omega)⟩
        obtain ⟨ad, ea, hx0, hx1⟩ := at24n HV.out.row hxl
        cases ea
        have ho1 : V0.cell? ⟨ob, 1, none⟩ = some (.slice (some ad) n co) := (blk_cell HV.out.blk 1).trans rfl
        have hj0 : (0 : Int) ≤ (j : Int) := by omega
        have hj1 : (j : Int) < (n : Int) := by omega
        have HXJ := Aside0.mk hxl
        have HLJ := Aside0.mk hlj
        clear hxl hlj LX
        go_upto_region 9 with (fail)
        have hxb := heap_alloc_new V0 (.cells #[.int .i64 xa, .int .i64 xb] 24)
        have hbc : Below V0.heap.size V0 (V0.alloc (.cells #[.int .i64 xa, .int .i64 xb] 24)) := below_alloc (Below.refl _ _) _
        generalize V0.alloc (Obj.cells #[.int .i64 xa, .int .i64 xb] 24) = Wc at hxb hbc ⊢
        generalize V0.heap.size = lb at hxb ⊢
        have HCc := Aside0.mk (HV.out.below hbc)
        have LY : Aside0 (∀ w', Below Wc.heap.size Wc w' → w'.cell? ⟨ob, 1, none⟩ = some (.slice (some ad) n co) ∧ w'.cell? ⟨lb, 0, none⟩ = some (.int .i64 xa) ∧ w'.cell? ⟨lb, 1, none⟩ = some (.int .i64 xb)) := ⟨fun w' h => ⟨(blk_cell (HCc.out.below h).blk 1).trans rfl, (h.cell (blk_lt hxb)).trans ((blk_cell hxb 0).trans rfl), (h.cell (blk_lt hxb)).trans ((blk_cell hxb 1).trans rfl)⟩⟩
        obtain ⟨_, _, _, hto, hcc1⟩ := cuts24 (A := some ad) (c := co) (i := j) lo HLJ.out (by omega) HCc.out.cap
        obtain ⟨Ad, cd, hf, _, hcc2⟩ := cuts24 (A := some ad) (c := co) (i := j + 1) lo HLJ.out (by omega) HCc.out.cap
        rw [show ((j + 1 : Nat) : Int) = (j : Int) + 1 from rfl] at hf
        have HT := Aside0.mk (hcc1 Wc HCc.out.row).2
        have hdr := (hcc2 Wc HCc.out.row).1
        have hnd : n - (j + 1) ≤ 1000 := by omega
        have hll : (([(xb, xa)] ++ lo.take j) ++ lo.drop (j + 1)).length = n := by have := HLJ.out; simp; omega
        have hlt : (lo.take j).length = j := by have := HLJ.out; rw [List.length_take]; omega
        generalize n - (j + 1) = nd at hdr hf hnd
        have HDr := Aside0.mk hdr
        have FF := Aside0.mk hf
        have FT := Aside0.mk hto
        have HLL := Aside0.mk hll
        have ej1 : IntKind.i64.wrap ((j : Int) + 1) = (j : Int) + 1 := IntWalk.i64_in _ (by omega)
        clear hxb hbc hto hcc1 hcc2 hf hdr hll ho1 hx0 hx1
        refine Rg.startz [18] neaB (fun w' => Below Wc.heap.size Wc w') 137 19 147573389639722991616 [(6, .pointer (some ⟨ob, 0, none⟩)), (8, .int .i64 (j : Int)), (9, .pointer (some ⟨lb, 0, none⟩))] neaBt (by kernel_rfl) (by kernel_rfl) neaBT (by decide) (fun c a a' w e h => ⟨e ▸ h.1, h.2⟩) (by kernel_rfl) ⟨rfl, rfl, rfl, trivial⟩ (below_drew (Below.refl _ _)) (fun Q' C HE hS => ?_)
        have hb0 : Below Wc.heap.size Wc Wc.drew := below_drew (Below.refl _ _)
        generalize Wc.drew = V0 at hb0 hS ⊢
        refine Rg.gen C hS 0 49 1 (.pointer (some ⟨lb, 1, none⟩)) (Op.indexAddr 24 (Operand.tmp 9) (Operand.const (Value.int IntKind.i64 1))) [(Operand.tmp 9, .pointer (some ⟨lb, 0, none⟩)), (Operand.const (Value.int IntKind.i64 1), Value.int IntKind.i64 1)] (by kernel_rfl) (by kernel_rfl) (by kernel_rfl) (fun o ho ρ h w hS => by have h1 := h _ (.head _); have h2 := h _ (.tail _ (.head _)); simp only at h1 h2; clear h; unfold execOp; simp only [ho, h1, h2]; go_simp) ?_
        refine Rg.gen C hS 1 50 3 (.int .i64 xb) (Op.load 3 (Operand.tmp 49)) [(Operand.tmp 49, .pointer (some ⟨lb, 1, none⟩))] (by kernel_rfl) (by kernel_rfl) (by kernel_rfl) (fun o ho ρ h w hS => by have h1 := h _ (.head _); simp only at h1; clear h; unfold execOp; simp only [ho, h1]; obtain ⟨k0, k1, k2⟩ := LY.out _ hS; go_simp) ?_
        refine Rg.gen C hS 2 51 7 (.pointer (some ⟨lb, 0, none⟩)) (Op.indexAddr 24 (Operand.tmp 9) (Operand.const (Value.int IntKind.i64 0))) [(Operand.tmp 9, .pointer (some ⟨lb, 0, none⟩)), (Operand.const (Value.int IntKind.i64 0), Value.int IntKind.i64 0)] (by kernel_rfl) (by kernel_rfl) (by kernel_rfl) (fun o ho ρ h w hS => by have h1 := h _ (.head _); have h2 := h _ (.tail _ (.head _)); simp only at h1 h2; clear h; unfold execOp; simp only [ho, h1, h2]; go_simp) ?_
        refine Rg.gen C hS 3 52 15 (.int .i64 xa) (Op.load 3 (Operand.tmp 51)) [(Operand.tmp 51, .pointer (some ⟨lb, 0, none⟩))] (by kernel_rfl) (by kernel_rfl) (by kernel_rfl) (fun o ho ρ h w hS => by have h1 := h _ (.head _); simp only at h1; clear h; unfold execOp; simp only [ho, h1]; obtain ⟨k0, k1, k2⟩ := LY.out _ hS; go_simp) ?_
        refine Rg.gen C hS 4 53 31 (.agg #[.int .i64 xb, .int .i64 xa]) (Op.build 24 #[(0, Operand.tmp 50), (1, Operand.tmp 52)]) [(Operand.tmp 50, .int .i64 xb), (Operand.tmp 52, .int .i64 xa)] (by kernel_rfl) (by kernel_rfl) (by kernel_rfl) (fun o ho ρ h w hS => by have h1 := h _ (.head _); have h2 := h _ (.tail _ (.head _)); simp only at h1 h2; clear h; unfold execOp; simp only [ho, h1, h2]; go_simp) ?_
        refine Rg.gen C hS 6 55 95 (.pointer (some ⟨ob, 1, none⟩)) (Op.fieldAddr 27 (Operand.tmp 6) 1) [(Operand.tmp 6, .pointer (some ⟨ob, 0, none⟩))] (by kernel_rfl) (by kernel_rfl) (by kernel_rfl) (fun o ho ρ h w hS => by have h1 := h _ (.head _); simp only at h1; clear h; unfold execOp; simp only [ho, h1]; go_simp) ?_
        refine Rg.gen C hS 7 56 223 (.slice (some ad) n co) (Op.load 25 (Operand.tmp 55)) [(Operand.tmp 55, .pointer (some ⟨ob, 1, none⟩))] (by kernel_rfl) (by kernel_rfl) (by kernel_rfl) (fun o ho ρ h w hS => by have h1 := h _ (.head _); simp only at h1; clear h; unfold execOp; simp only [ho, h1]; obtain ⟨k0, k1, k2⟩ := LY.out _ hS; go_simp) ?_
        refine Rg.move C 8 57 479 (.int .i64 (j : Int)) (by kernel_rfl) (by kernel_rfl) ?_
        refine Rg.gen C hS 9 58 991 (.slice (some ad) j co) (Op.slice 25 (Operand.tmp 56) none (some (Operand.tmp 57)) none) [(Operand.tmp 56, .slice (some ad) n co), (Operand.tmp 57, .int .i64 (j : Int))] (by kernel_rfl) (by kernel_rfl) (by kernel_rfl) (fun o ho ρ h w hS => by have h1 := h _ (.head _); have h2 := h _ (.tail _ (.head _)); simp only at h1 h2; clear h; unfold execOp; simp only [ho, h1, h2]; simp [Instr.sliceAt, h2, FT.out w]) ?_
        refine Rg.gen C hS 11 60 3039 (.pointer (some ⟨ob, 1, none⟩)) (Op.fieldAddr 27 (Operand.tmp 6) 1) [(Operand.tmp 6, .pointer (some ⟨ob, 0, none⟩))] (by kernel_rfl) (by kernel_rfl) (by kernel_rfl) (fun o ho ρ h w hS => by have h1 := h _ (.head _); simp only at h1; clear h; unfold execOp; simp only [ho, h1]; go_simp) ?_
        refine Rg.gen C hS 12 61 7135 (.slice (some ad) n co) (Op.load 25 (Operand.tmp 60)) [(Operand.tmp 60, .pointer (some ⟨ob, 1, none⟩))] (by kernel_rfl) (by kernel_rfl) (by kernel_rfl) (fun o ho ρ h w hS => by have h1 := h _ (.head _); simp only at h1; clear h; unfold execOp; simp only [ho, h1]; obtain ⟨k0, k1, k2⟩ := LY.out _ hS; go_simp) ?_
        refine Rg.move C 13 62 15327 (.int .i64 (j : Int)) (by kernel_rfl) (by kernel_rfl) ?_
        refine Rg.gen C hS 14 63 31711 (.int .i64 ((j : Int) + 1)) (Op.binOp BinOp.add 3 (Operand.tmp 62) (Operand.const (Value.int IntKind.i64 1)) 3) [(Operand.tmp 62, .int .i64 (j : Int)), (Operand.const (Value.int IntKind.i64 1), Value.int IntKind.i64 1)] (by kernel_rfl) (by kernel_rfl) (by kernel_rfl) (fun o ho ρ h w hS => by have h1 := h _ (.head _); have h2 := h _ (.tail _ (.head _)); simp only at h1 h2; clear h; unfold execOp; simp only [ho, h1, h2]; go_simp) ?_
        refine Rg.gen C hS 15 64 64479 (.slice Ad nd cd) (Op.slice 25 (Operand.tmp 61) (some (Operand.tmp 63)) none none) [(Operand.tmp 61, .slice (some ad) n co), (Operand.tmp 63, .int .i64 ((j : Int) + 1))] (by kernel_rfl) (by kernel_rfl) (by kernel_rfl) (fun o ho ρ h w hS => by have h1 := h _ (.head _); have h2 := h _ (.tail _ (.head _)); simp only at h1 h2; clear h; unfold execOp; simp only [ho, h1, h2]; simp [Instr.sliceAt, h2, FF.out w]) ?_
        refine Rg.make C 5 54 64511 (.slice (some ⟨V0.heap.size, 0, none⟩) 1 1) (V0.alloc (.cells #[.int .i64 xb, .int .i64 xa] 24)) (Op.buildSlice 25 1 #[(0, Operand.tmp 53)]) [(Operand.tmp 53, .agg #[.int .i64 xb, .int .i64 xa])] (by kernel_rfl) (by kernel_rfl) (by kernel_rfl) (fun o ho ρ h => by have h1 := h _ (.head _); simp only at h1; clear h; unfold execOp; simp only [ho, h1]; simp [h1]; go_simp) (below_alloc hb0 _) ?_
        have hR2 : k24.R 24 (V0.alloc (.cells #[.int .i64 xb, .int .i64 xa] 24)) Wc.heap.size (fun _ => True) (.slice (some ⟨V0.heap.size, 0, none⟩) 1 1) [(xb, xa)] := R_lit24 V0 _ hb0.size [(xb, xa)] (by simp) #[.int .i64 xb, .int .i64 xa] (one24 xb xa)
        have hb2 : Below Wc.heap.size Wc (V0.alloc (.cells #[.int .i64 xb, .int .i64 xa] 24)) := below_alloc hb0 _
        generalize V0.alloc (.cells #[.int .i64 xb, .int .i64 xa] 24) = W2 at hR2 hb2 ⊢
        generalize V0.heap.size = lb2 at hR2 ⊢
        clear hS
        have hS := hb2
        refine Rg.raw C 10 59 65535 (Op.call { callee := Callee.builtin Builtin.append, args := #[Operand.tmp 54, Operand.tmp 58], argTypes := #[25, 25] }) (by kernel_rfl) (by kernel_rfl) (fun a hF o ho hod hwt K hK => ?_)
        refine app24 (w0 := Wc) Wc.heap.size hwt (.tmp 54) (.tmp 58) ho (.slice (some ⟨lb2, 0, none⟩) 1 1) [(xb, xa)] (lo.take j) (some ad) (j) (co) ((hF.ev (by kernel_rfl)).trans (by kernel_rfl)) ((hF.ev (by kernel_rfl)).trans (by kernel_rfl)) hR2 (Kd.C_below HT.out hb2) hb2 hb2.size (by simp; omega) (fun vv3 ww3 hR3 hb3 hg3 => ?_)
        refine hK.out _ _ hb3 ?_
        clear hK K hF hwt ho hod o a hS
        have hS := hb3
        refine Rg.raw C 16 65 131071 (Op.call { callee := Callee.builtin Builtin.append, args := #[Operand.tmp 59, Operand.tmp 64], argTypes := #[25, 25] }) (by kernel_rfl) (by kernel_rfl) (fun a hF o ho hod hwt K hK => ?_)
        refine app24 (w0 := Wc) Wc.heap.size hwt (.tmp 59) (.tmp 64) ho (vv3) ([(xb, xa)] ++ lo.take j) (lo.drop (j + 1)) Ad (nd) (cd) ((hF.ev (by kernel_rfl)).trans (by kernel_rfl)) ((hF.ev (by kernel_rfl)).trans (by kernel_rfl)) hR3 (Kd.C_below HDr.out hb3) hb3 hb3.size (by simp; omega) (fun vv4 ww4 hR4 hb4 hg4 => ?_)
        refine hK.out _ _ hb4 ?_
        clear hK K hF hwt ho hod o a hS
        have hS := hb4
        refine Rg.gen C hS 17 66 262143 (.pointer (some ⟨ob, 1, none⟩)) (Op.fieldAddr 27 (Operand.tmp 6) 1) [(Operand.tmp 6, .pointer (some ⟨ob, 0, none⟩))] (by kernel_rfl) (by kernel_rfl) (by kernel_rfl) (fun o ho ρ h w hS => by have h1 := h _ (.head _); simp only at h1; clear h; unfold execOp; simp only [ho, h1]; go_simp) ?_
        obtain ⟨A5, c5, rfl, hc5, hC5⟩ := Kd.R_reads hR4
        rw [HLL.out] at hc5 hC5 hR4 ⊢
        have hbk := (HCc.out.below hb4).blk
        have hfr := blk_frozen hbk 1
        have hcl : ww4.cell? ⟨ob, 1, none⟩ = some (.slice (some ad) n co) := (blk_cell hbk 1).trans rfl
        refine Rg.last C 18 524287 (Op.store 25 (Operand.tmp 66) (Operand.tmp 65)) (by kernel_rfl) (by kernel_rfl) (fun a hF o ho hd K hK => ?_)
        have h1 := (hF.ev (x := .tmp 66) (by kernel_rfl)).trans (show _ = .pointer (some ⟨ob, 1, none⟩) by kernel_rfl)
        have h2 := (hF.ev (x := .tmp 65) (by kernel_rfl)).trans (show _ = .slice A5 n c5 by kernel_rfl)
        refine Rg.wp_store (w1 := ww4.setCell ⟨ob, 1, none⟩ (.slice A5 n c5)) hd (by unfold execOp; simp only [ho]; rw [h1, h2]; go_simp) (hK _ ?_)
        clear hK K hF ho hd o a h1 h2
        refine Rg.done_set C [(49, none), (50, none), (51, none), (52, none), (53, none), (54, none), (55, none), (56, none), (57, none), (58, none), (59, none), (60, none), (61, none), (62, none), (63, none), (64, none), (65, none), (66, none)] (by kernel_rfl) (by kernel_rfl) (by kernel_rfl) (by kernel_rfl) (by kernel_rfl) (fun u => HE.out _ _ ?_)
        simp only [Rg.sets, List.map_cons, List.map_nil, Option.getD_some, Option.getD_none, List.foldl_cons, List.foldl_nil]
        simp only [List.set_cons_succ, List.set_cons_zero]
        have hOI : OI W (ww4.setCell ⟨ob, 1, none⟩ (.slice A5 n c5)) ob (M : Int) n ls (swap (xa, xb) :: (lo.take j ++ lo.drop (j + 1))) A5 c5 := by
          have hr := Kd.R_set hR4 hbk (fun q hq => by simp [k24_E] at hq; subst hq; decide) 1 (.slice A5 n c5)
          have h3 := (Kd.R_reads' hr).2.2
          rw [HLL.out] at h3
          have ht := turned HCc.out.right HXJ.out
          exact ⟨by simpa using blk_set hbk 1 (.slice A5 n c5), by simpa [swap] using h3, hc5, ht.1, HCc.out.alike.trans ht.2, (below_step HCc.out.bel hb4).setCell HOB.out _⟩
        generalize ww4.setCell ⟨ob, 1, none⟩ (.slice A5 n c5) = Wz at hOI ⊢
        have HZ := Aside0.mk hOI
        have HI7 : Aside0 (wrap64 ((i : Int) + 1) = ((i + 1 : Nat) : Int) ∧ IntKind.i64.wrap ((i : Int) + 1) = ((i + 1 : Nat) : Int)) := ⟨by have := HOS.out; unfold wrap64; omega, by rw [IntWalk.i64_in _ (by have := HOS.out; omega)]; rfl⟩
        have HMS : Aside0 (gk - 1 < gk ∧ gk - 1 + (i + 1) = ol) := ⟨by have := HQ.out; omega⟩
        clear hOI hR3 hR4 hb3 hb4 hg3 hg4 hC5 hc5 hbk hfr hcl HE C hS hb0 h1 h2 d1 d2 hi0 hi1 hj0 hj1 hjn ej1 en1 hnd hlt
        go_wp2_with fail
        go_roundg (gk - 1)
        case measure => exact HMS.out.1
        case rel =>
          exact ⟨i + 1, _, _, _, by first | exact congrArg _ HI7.out.1 | exact congrArg _ HI7.out.2, ⟨HMS.out.2⟩, HZ⟩
      · have hd : (¬ i < ol) ∨ (i < ol ∧ ¬ 1 < n) := by omega
        rcases hd with h1 | ⟨h1, h2⟩
        · have d1 : decide ((i : Int) < (ol : Int)) = false := decide_eq_false (by omega)
          go_wp2_with fail
          go_meet
          exact ⟨lo, Ao, co, HI⟩
        · have d1 : decide ((i : Int) < (ol : Int)) = true := decide_eq_true (by omega)
          have d2 : decide ((1 : Int) < (n : Int)) = false := decide_eq_false (by omega)
          go_wp2_with fail
          go_meet
          exact ⟨lo, Ao, co, HI⟩
  case rest =>
    obtain ⟨lo, Ao, co, HI⟩ := hcut
    clear HOI HO3 HB3 HX3 HXO HC1
    obtain ⟨ww, hww⟩ : ∃ l, IsWays (M : Int) ls l := ⟨_, srt_ways HR.out.ok HR.out.once⟩
    obtain ⟨m, hm⟩ : ∃ m, ww.length = m := ⟨_, rfl⟩
    have HW := Aside0.mk (And.intro hww hm)
    have hm30 : m ≤ 30 := by have h1 := hww.len HR.out.ok HR.out.once; have h2 := HLN.out; omega
    have HSM : Aside0 (SM (M : Int) ls M = m) := ⟨by rw [SM_all hww, hm]⟩
    clear hww hm
    have LR : Aside0 (∀ w', Below wc.heap.size wc w' → w'.cell? ⟨g, 0, none⟩ = some (.int .i64 (M : Int)) ∧ w'.cell? ⟨g, 1, none⟩ = some (.slice A n c2) ∧ Kd.C k24 w' A n ls ∧ Er.Typ w' ∧ w'.cell? ⟨ob, 0, none⟩ = some (.int .i64 (M : Int)) ∧ w'.cell? ⟨ob, 1, none⟩ = some (.slice Ao n co) ∧ Kd.C k24 w' Ao n lo) := ⟨fun w' h => by
      have h2 := HI.out.below h
      obtain ⟨a1, a2, a3, a4⟩ := LD.out w' h2.bel
      exact ⟨a1, a2, a3, a4, (blk_cell h2.blk 0).trans rfl, (blk_cell h2.blk 1).trans rfl, h2.row⟩⟩
    have hg0 := (LR.out wc (Below.refl _ _)).1
    go_wp2_with fail
    clear hg0
    go_loopg [69, 10] M (fun q s69 s10 wr => ∃ b : Nat, s69 = .int .i64 (b : Int) ∧ s10 = .int .i64 (SM (M : Int) ls b : Int) ∧ Aside0 (q + b = M) ∧ Aside0 (Below wc.heap.size wc wr))
    case atStart => exact ⟨0, rfl, rfl, ⟨by omega⟩, ⟨Below.refl _ _⟩⟩
    case round =>
      obtain ⟨b, rfl, rfl, HQ, HB⟩ := hrel
      obtain ⟨hg0, hg1, hcl, hty, ho0, ho1, hclo⟩ := LR.out wr HB.out
      have HCL := Aside0.mk hcl
      clear hcl hty hclo
      have hsm := SM_le M ls b
      by_cases hlt : b < M
      · have hlt2 : (b : Int) < (M : Int) := by omega
        have d1 : decide ((b : Int) < (M : Int)) = true := decide_eq_true hlt2
        have hsb : SM (M : Int) ls b ≤ 49 := Nat.le_trans hsm (Nat.mul_le_mul (show b ≤ 7 by omega) (show M ≤ 7 by omega))
        clear hsm
        have hsucc := SM_succ (M : Int) ls b
        have hnl := (near_is (M : Int) ls (b : Int)).len
        obtain ⟨l, hl⟩ : ∃ l, near (M : Int) ls (b : Int) = l := ⟨_, rfl⟩
        have hNr := near_is (M : Int) ls (b : Int)
        rw [hl] at hNr hsucc hnl
        obtain ⟨k, hk⟩ : ∃ k, l.length = k := ⟨_, rfl⟩
        rw [hk] at hsucc hnl
        have HNR := Aside0.mk (And.intro hNr (And.intro hk hsucc))
        have HNO : Aside0 (IsNear (M : Int) lo (b : Int) l) := ⟨hNr.1, fun x => (hNr.2 x).trans (HI.out.alike.adj _ _)⟩
        have hk7 : k ≤ 7 := by omega
        have HK7 := Aside0.mk hk7
        clear hl hNr hk hsucc hnl
        go_upto_region 15 with ((go_at_call 27; (with_reducible refine (near_at (M : Int) (b : Int) A n c2 ls _ l HCL.out HC.out.1 HC.out.2.1 HNR.out.1).mono ?_); rintro e w3 ⟨A3, c3, rfl, hR3, hb3⟩; rw [HNR.out.2.1] at hR3 ⊢; have HR3 := Aside0.mk (Kd.R_reads' hR3).2.2; have HC3 := Aside0.mk (Kd.R_reads' hR3).2.1; have HB3 := Aside0.mk (below_step HB.out hb3); clear hR3 hb3))
        clear hg0 hg1 ho0 ho1
        obtain ⟨hg0, hg1, hcl, hty, ho0, ho1, hclo⟩ := LR.out w3 HB3.out
        have HCO := Aside0.mk hclo
        clear hcl hty hclo
        go_upto_region 17 with (first | (go_at_call 27; (with_reducible refine (near_at (M : Int) (b : Int) Ao n co lo _ l HCO.out HI.out.cap HC.out.2.1 HNO.out).mono ?_); rintro e w4 ⟨A4, c4, rfl, hR4, hb4⟩; rw [HNR.out.2.1] at hR4 ⊢; have HR4 := Aside0.mk (Kd.R_reads' hR4).2.2; have HC4 := Aside0.mk (Kd.R_reads' hR4).2.1; have HB34 := Aside0.mk hb4; have HB4 := Aside0.mk (below_step HB3.out hb4); clear hR4 hb4) | (go_at_call 26; (with_reducible refine (same_true A3 k c3 l A4 k c4 _ (by have h := Kd.C_below HR3.out HB34.out; rw [HNR.out.2.1] at h; exact h) HC3.out (by have h := HR4.out; rw [HNR.out.2.1] at h; exact h) HC4.out (by have := HK7.out; omega)).mono ?_); rintro e w5 ⟨rfl, hb5⟩; have HB35 := Aside0.mk (below_step HB34.out hb5); have HB5 := Aside0.mk (below_step HB4.out hb5); clear hb5))
        have CL : Aside0 (Kd.C (Kd.int .i64) w5 A3 k l) := ⟨by have h := Kd.C_below HR3.out HB35.out; rw [HNR.out.2.1] at h; exact h⟩
        clear hg0 hg1 ho0 ho1 HR3 HR4 HCO
        go_wp2_with fail
        obtain ⟨wo, rfl⟩ : ∃ wo : World, wo = wr := ⟨_, rfl⟩
        obtain ⟨gko, rfl⟩ : ∃ z, z = gk := ⟨_, rfl⟩
        go_loopg [83] k (fun q s83 wr => ∃ i : Nat, s83 = .int .i64 (i : Int) ∧ Aside0 (q + i = k) ∧ Aside0 (Below w5.heap.size w5 wr))
        case atStart => exact ⟨0, rfl, ⟨by omega⟩, ⟨Below.refl _ _⟩⟩
        case round =>
          obtain ⟨i, rfl, HQ2, HB2⟩ := hrel
          have HB6 := Aside0.mk (below_step HB5.out HB2.out)
          obtain ⟨hg0, hg1, hcl, hty, ho0, ho1, hclo⟩ := LR.out wr HB6.out
          have HC6 := Aside0.mk hcl
          clear hcl hty hclo ho0 ho1
          by_cases hi : i < k
          · obtain ⟨x, hx⟩ : ∃ x, l[i]? = some x := ⟨_, List.getElem?_eq_getElem (by rw [HNR.out.2.1]; exact hi)⟩
            obtain ⟨ad3, ea3, hx0⟩ := at_int (Kd.C_below CL.out HB2.out) hx
            cases ea3
            have hadj : Adj (M : Int) ls (b : Int) x := (HNR.out.1.2 x).mp (List.mem_of_getElem? hx)
            have hne : (x == (b : Int)) = false := by have := hadj.rng; simp; omega
            have HAD := Aside0.mk hadj.symm
            have HX := Aside0.mk hx
            have hi1 : (i : Int) < (k : Int) := by omega
            have hi0 : (0 : Int) ≤ (i : Int) := by omega
            have d2 : decide ((i : Int) < (k : Int)) = true := decide_eq_true hi1
            have hi6 : (i : Int) + 1 ≤ 1000000 := by omega
            clear hx hadj
            go_upto_region 20 with (fail)
            clear hx0 hi0 hi1 d2
            rcases Nat.eq_zero_or_pos i with h0 | h0
            · subst h0
              go_wp2_with ((go_at_call 30; (with_reducible refine (linked_at (M : Int) x (b : Int) A n c2 ls _ true HC6.out HC.out.1 HL.out.1 HL.out.2 ⟨fun _ => HAD.out, fun _ => rfl⟩).mono ?_); rintro e w7 ⟨rfl, hb7⟩; have HB7 := Aside0.mk (below_step HB2.out hb7); clear hb7))
              go_roundg (gk - 1)
              case measure => have := HQ2.out; omega
              case rel => exact ⟨1, by go_num, ⟨by have := HQ2.out; omega⟩, HB7⟩
            · obtain ⟨j, rfl⟩ : ∃ j, i = j + 1 := ⟨i - 1, by omega⟩
              rw [show ((j + 1 : Nat) : Int) = (j : Int) + 1 from rfl]
              have d3 : decide ((0 : Int) < (j : Int) + 1) = true := decide_eq_true (by omega)
              obtain ⟨y, hy⟩ : ∃ y, l[j]? = some y := ⟨_, List.getElem?_eq_getElem (by rw [HNR.out.2.1]; omega)⟩
              obtain ⟨ad4, ea4, hy0⟩ := at_int (Kd.C_below CL.out HB2.out) hy
              cases ea4
              have hyx := rise_int HNR.out.1.1 hy HX.out
              have d4 : decide (x ≤ y) = false := decide_eq_false (by omega)
              have hj1 : (j : Int) < (k : Int) := by omega
              have hj0 : (0 : Int) ≤ (j : Int) := by omega
              have hj2 : (j : Int) + 1 ≤ 1000000 := by omega
              have HIK := Aside0.mk hi
              clear hy hyx hi6 h0 hi
              go_upto_region 22 with ((go_at_call 30; (with_reducible refine (linked_at (M : Int) x (b : Int) A n c2 ls _ true HC6.out HC.out.1 HL.out.1 HL.out.2 ⟨fun _ => HAD.out, fun _ => rfl⟩).mono ?_); rintro e w7 ⟨rfl, hb7⟩; have HB7 := Aside0.mk (below_step HB2.out hb7); clear hb7))
              clear hj2
              have hi6 : (j : Int) + 1 + 1 ≤ 1000000 := by omega
              go_wp2_with fail
              go_roundg (gk - 1)
              case measure => have := HQ2.out; have := HIK.out; omega
              case rel => exact ⟨j + 1 + 1, by go_num, ⟨by have := HQ2.out; have := HIK.out; omega⟩, HB7⟩
          · obtain rfl : i = k := by have := HQ2.out; omega
            have hss : wrap64 ((SM (M : Int) ls b : Int) + (i : Int)) = (SM (M : Int) ls (b + 1) : Int) := by have := HNR.out.2.2; unfold wrap64; omega
            have hst : IntKind.i64.wrap ((SM (M : Int) ls b : Int) + (i : Int)) = (SM (M : Int) ls (b + 1) : Int) := by have := HNR.out.2.2; rw [IntWalk.i64_in _ (by omega)]; omega
            have hb6 : (b : Int) + 1 ≤ 1000000 := by omega
            go_wp2_with fail
            go_roundg (gko - 1)
            case measure => have := HQ.out; omega
            case rel => exact ⟨b + 1, by go_num, by first | rfl | rw [hss] | rw [hst], ⟨by have := HQ.out; omega⟩, HB6⟩
      · obtain rfl : b = M := by have := HQ.out; omega
        have d1 : decide ((b : Int) < (b : Int)) = false := by simp
        rw [HSM.out]
        clear hg0 hg1 ho0 ho1 hsm
        have HWK : Aside0 (∀ x ∈ ww, S70.ok x) := ⟨fun x hx => by have h := ((HW.out.1.2 x).mp hx).rng; exact ⟨Fm.wf_int (by omega) (by omega), Fm.wf_int (by omega) (by omega)⟩⟩
        go_upto_region 25 with (fail)
        refine Rg.start neaC (fun w' => Below wc.heap.size wc w') 137 21 174224405710021020178763686029182789222416 [(5, .pointer (some ⟨g, 0, none⟩)), (6, .pointer (some ⟨ob, 0, none⟩)), (10, .int .i64 (m : Int))] neaCt (by kernel_rfl) (by kernel_rfl) neaCT (by decide) (fun c a a' w e h => ⟨e ▸ h.1, h.2⟩) (by kernel_rfl) ⟨rfl, rfl, rfl, trivial⟩ (below_drew HB.out) (fun Q' C HE hS => ?_)
        refine Rg.gen C hS 0 117 1 (.agg #[.int .i64 (b : Int), .slice Ao n co]) (Op.load 27 (Operand.tmp 6)) [(Operand.tmp 6, .pointer (some ⟨ob, 0, none⟩))] (by kernel_rfl) (by kernel_rfl) (by kernel_rfl) (fun o ho ρ h w hS => by have h1 := h _ (.head _); simp only at h1; clear h; unfold execOp; simp only [ho, h1]; obtain ⟨k0, k1, k2, k3, k4, k5, k6⟩ := LR.out _ hS; go_simp) ?_
        refine Rg.call C 1 118 3 #[.agg #[.int .i64 (b : Int), .slice Ao n co]] (by kernel_rfl) Tryd.func25 (by kernel_rfl) rfl (by kernel_rfl) ?_
        refine (check_nil (b : Int) Ao n co lo _ (LR.out _ hS).2.2.2.2.2.2 HI.out.cap HI.out.right).mono ?_
        rintro e w' ⟨rfl, hb⟩
        have hSn := below_step hS hb
        clear hS
        have hS := hSn
        clear hSn
        clear hb
        refine ⟨_, rfl, hS, ?_⟩
        refine Rg.gen C hS 2 119 7 (.bool true) (Op.binOp BinOp.eql 29 (Operand.tmp 118) (Operand.const Value.nilIface) 29) [(Operand.tmp 118, .nilIface), (Operand.const Value.nilIface, Value.nilIface)] (by kernel_rfl) (by kernel_rfl) (by kernel_rfl) (fun o ho ρ h w hS => by have h1 := h _ (.head _); have h2 := h _ (.tail _ (.head _)); simp only at h1 h2; clear h; unfold execOp; simp only [ho, h1, h2]; go_simp) ?_
        refine Rg.move C 3 120 15 (.bool true) (by kernel_rfl) (by kernel_rfl) ?_
        refine Rg.gen C hS 4 121 31 (.agg #[.int .i64 (b : Int), .slice Ao n co]) (Op.load 27 (Operand.tmp 6)) [(Operand.tmp 6, .pointer (some ⟨ob, 0, none⟩))] (by kernel_rfl) (by kernel_rfl) (by kernel_rfl) (fun o ho ρ h w hS => by have h1 := h _ (.head _); simp only at h1; clear h; unfold execOp; simp only [ho, h1]; obtain ⟨k0, k1, k2, k3, k4, k5, k6⟩ := LR.out _ hS; go_simp) ?_
        refine Rg.gen C hS 6 123 95 (.agg #[.int .i64 (b : Int), .slice A n c2]) (Op.load 27 (Operand.tmp 5)) [(Operand.tmp 5, .pointer (some ⟨g, 0, none⟩))] (by kernel_rfl) (by kernel_rfl) (by kernel_rfl) (fun o ho ρ h w hS => by have h1 := h _ (.head _); simp only at h1; clear h; unfold execOp; simp only [ho, h1]; obtain ⟨k0, k1, k2, k3, k4, k5, k6⟩ := LR.out _ hS; go_simp) ?_
        refine Rg.call C 5 122 127 #[.agg #[.int .i64 (b : Int), .slice Ao n co]] (by kernel_rfl) Tryd.func19 (by kernel_rfl) rfl (by kernel_rfl) ?_
        refine (ways_eq (b : Int) Ao n co m ls lo ww _ (LR.out _ hS).2.2.2.2.2.2 HI.out.cap HI.out.right HI.out.alike HW.out.1 HW.out.2).mono ?_
        rintro e w8 ⟨A8, c8, rfl, hC8, hb⟩
        have hSn := below_step hS hb
        clear hS
        have hS := hSn
        clear hSn
        have H8 := Aside0.mk hC8
        clear hb hC8
        refine ⟨_, rfl, hS, ?_⟩
        refine Rg.call C 7 124 255 #[.agg #[.int .i64 (b : Int), .slice A n c2]] (by kernel_rfl) Tryd.func19 (by kernel_rfl) rfl (by kernel_rfl) ?_
        refine (ways_eq (b : Int) A n c2 m ls ls ww _ (LR.out _ hS).2.2.1 HC.out.1 HR.out (fun _ => Iff.rfl) HW.out.1 HW.out.2).mono ?_
        rintro e w9 ⟨A9, c9, rfl, hC9, hb⟩
        have hSn := below_step hS hb
        clear hS
        have hS := hSn
        clear hSn
        have H9 := Aside0.mk hC9
        have H89 := Aside0.mk (Kd.C_below H8.out hb)
        clear hb hC9
        refine ⟨_, rfl, hS, ?_⟩
        refine Rg.call C 8 125 511 #[.slice A8 m c8, .slice A9 m c9] (by kernel_rfl) Tryd.func32 (by kernel_rfl) rfl (by kernel_rfl) ?_
        refine (same32_true A8 A9 m c8 c9 ww _ H89.out H9.out (by omega) HWK.out).mono ?_
        rintro e w' ⟨rfl, hb⟩
        have hSn := below_step hS hb
        clear hS
        have hS := hSn
        clear hSn
        clear hb
        refine ⟨_, rfl, hS, ?_⟩
        refine Rg.pick C 9 126 1023 (.bool true) (by kernel_rfl) (by kernel_rfl) ?_
        refine Rg.move C 10 127 2047 (.bool true) (by kernel_rfl) (by kernel_rfl) ?_
        refine Rg.move C 11 128 4095 (.int .i64 (m : Int)) (by kernel_rfl) (by kernel_rfl) ?_
        refine Rg.gen C hS 12 129 8191 (.agg #[.int .i64 (b : Int), .slice A n c2]) (Op.load 27 (Operand.tmp 5)) [(Operand.tmp 5, .pointer (some ⟨g, 0, none⟩))] (by kernel_rfl) (by kernel_rfl) (by kernel_rfl) (fun o ho ρ h w hS => by have h1 := h _ (.head _); simp only at h1; clear h; unfold execOp; simp only [ho, h1]; obtain ⟨k0, k1, k2, k3, k4, k5, k6⟩ := LR.out _ hS; go_simp) ?_
        refine Rg.call C 13 130 16383 #[.agg #[.int .i64 (b : Int), .slice A n c2]] (by kernel_rfl) Tryd.func19 (by kernel_rfl) rfl (by kernel_rfl) ?_
        refine (ways_eq (b : Int) A n c2 m ls ls ww _ (LR.out _ hS).2.2.1 HC.out.1 HR.out (fun _ => Iff.rfl) HW.out.1 HW.out.2).mono ?_
        rintro e w10 ⟨A10, c10, rfl, hC10, hb⟩
        have hSn := below_step hS hb
        clear hS
        have hS := hSn
        clear hSn
        clear hb hC10
        refine ⟨_, rfl, hS, ?_⟩
        refine Rg.gen C hS 14 131 32767 (.int .i64 (m : Int)) (Op.call { callee := Callee.builtin Builtin.len, args := #[Operand.tmp 130], argTypes := #[25] }) [(Operand.tmp 130, .slice A10 m c10)] (by kernel_rfl) (by kernel_rfl) (by kernel_rfl) (fun o ho ρ h w hS => by have h1 := h _ (.head _); simp only at h1; clear h; unfold execOp; simp only [ho, h1]; go_simp) ?_
        refine Rg.gen C hS 15 132 65535 (.bool true) (Op.binOp BinOp.eql 3 (Operand.tmp 128) (Operand.tmp 131) 3) [(Operand.tmp 128, .int .i64 (m : Int)), (Operand.tmp 131, .int .i64 (m : Int))] (by kernel_rfl) (by kernel_rfl) (by kernel_rfl) (fun o ho ρ h w hS => by have h1 := h _ (.head _); have h2 := h _ (.tail _ (.head _)); simp only at h1 h2; clear h; unfold execOp; simp only [ho, h1, h2]; go_simp) ?_
        refine Rg.pick C 16 133 131071 (.bool true) (by kernel_rfl) (by kernel_rfl) ?_
        refine Rg.move C 17 134 262143 (.bool true) (by kernel_rfl) (by kernel_rfl) ?_
        refine Rg.call C 18 135 524287 #[] (by kernel_rfl) Tryd.func6 (by kernel_rfl) rfl (by kernel_rfl) ?_
        refine (runs_calls _ (LR.out _ hS).2.2.2.1).mono ?_
        rintro e w' ⟨rfl, hb⟩
        have hSn := below_step hS hb
        clear hS
        have hS := hSn
        clear hSn
        clear hb
        refine ⟨_, rfl, hS, ?_⟩
        refine Rg.pick C 19 136 1048575 (.bool true) (by kernel_rfl) (by kernel_rfl) ?_
        refine Rg.move C 20 4 2097151 (.bool true) (by kernel_rfl) (by kernel_rfl) ?_
        refine Rg.done C (by kernel_rfl) (fun a hF => HE.out _ _ ?_)
        go_wp2_with fail
        exact bodyPost_ret (results_tmp rfl _ _ _) hF.defers ⟨by rw [hF.get 4 (by kernel_rfl)]; rfl, below_step (below_step HBW.out HI.out.bel) hS⟩
end Go.Proofs.YtfkkefhijhjaaaaDoor.Gr
