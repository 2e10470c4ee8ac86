import Derived.Test.YtfabnapjbgamaaaGreatDoorPrN
import Derived.Test.YtfabnapjbgamaaaGreatDoorPrL
import Derived.Test.YtfabnapjbgamaaaGreatDoorPrR
import Derived.Test.YtfabnapjbgamaaaGreatDoorRg
namespace Go.Proofs.YtfabnapjbgamaaaGreatDoor.MPred
open Go.RowKit Go.Lib Go.Proofs.YtfabnapjbgamaaaGreatDoorW.PrintWords Go.Proofs.YtfabnapjbgamaaaGreatDoorW.PrintLast Go.Proofs.YtfabnapjbgamaaaGreatDoorW.PrintMore
set_option linter.unusedVariables false
set_option linter.unusedSimpArgs false
attribute [local go_sem] max_two min_two
attribute [local go_sem high] eqA23
/-! ### PredMeets: function 5 -/
theorem k23_KM' {w : World} {base : Nat} (x : S23) (cs : List Value) (h : k23.K w x cs) : k23.M w base (fun _ => False) x cs := by
  rw [k23_open h]
  exact k23_mkM w base _ x
theorem k23_empty' (w : World) (base : Nat) (hb : base ≤ w.heap.size) : k23.R 23 (w.alloc (.cells #[] 23)) base (fun _ => True) (.slice (some ⟨w.heap.size, 0, none⟩) 0 0) [] := by
  have := World.ownsRow_made (base := base) (size := 5) (e := 23) w #[] 0 hb (Nat.zero_le _) rfl
  exact R_of_flat (by simpa [flat23] using this)
theorem cell_R {w : World} {base : Nat} {ok : Nat → Prop} {v : Value} {l : List S23} (h : Kd.R k23 23 w base ok v l) (hl : l ≠ []) : ∃ g c, v = .slice (some ⟨g, 0, none⟩) l.length c ∧ l.length ≤ c ∧ Kd.C k23 w (some ⟨g, 0, none⟩) l.length l ∧ ∀ m, m < l.length → ∀ w', Below w.heap.size w w' → w'.cell? ⟨g, m * 5, none⟩ = some (.string (l.getD m z23).f0) ∧ w'.cell? ⟨g, m * 5 + 1, none⟩ = some (.int .i64 (l.getD m z23).f1) ∧ w'.cell? ⟨g, m * 5 + 2, none⟩ = some (.int .i64 (l.getD m z23).f2) ∧ w'.cell? ⟨g, m * 5 + 3, none⟩ = some (.int .i64 (l.getD m z23).f3) ∧ w'.cell? ⟨g, m * 5 + 4, none⟩ = some (.string (l.getD m z23).f4) := by
  obtain ⟨A, c, e, hc, hC⟩ := Kd.R_reads h
  obtain ⟨_, inner, ho, _⟩ := h
  obtain ⟨hl', hn | ⟨g, cap, cells, ev, _⟩⟩ := ho
  · exfalso
    have : l.length ≠ 0 := fun h0 => hl (List.eq_nil_of_length_eq_zero h0)
    rw [e] at hn
    simp at hn
    omega
  · rw [e] at ev
    injection ev with e1 e2 e3
    subst e1
    subst e
    refine ⟨g, c, rfl, hc, hC, fun m hm w' hb => ?_⟩
    obtain ⟨ad, e1, h0, h1, h2, h3, h4⟩ := at_T23 (Kd.C_below hC hb) (m : Int) (by omega) (by omega)
    cases e1
    have ea : (⟨g, 0, none⟩ : Addr).add ((m : Int).toNat * 5) = ⟨g, m * 5, none⟩ := by rw [Go.Proofs.YtfabnapjbgamaaaGreatDoorW.PrintWords.add_plain, Int.toNat_natCast]
    have er : rd_T23 l (m : Int) = l.getD m z23 := by unfold rd_T23; rw [Int.toNat_natCast]
    rw [ea, er] at h0 h1 h2 h3 h4
    exact ⟨h0, h1, h2, h3, h4⟩
theorem all_take (l : List S23) (x : S40) (j : Nat) (h : j < l.length) : (l.take (j + 1)).all (fun c => H1 c x) = ((l.take j).all (fun c => H1 c x) && H1 (l.getD j z23) x) := by
  rw [List.take_add_one, List.getElem?_eq_getElem h, List.all_append, List.getD_eq_getElem?_getD, List.getElem?_eq_getElem h]
  simp
theorem same_n' (k : Nat) (A0 : Option Addr) (n0 c0 : Nat) (l0 : List S23) (e0 : l0.length = n0) (A1 : Option Addr) (n1 c1 : Nat) (l1 : List S23) (e1 : l1.length = n1) (r : Bool) (w : World) (hr0 : Kd.C k23 w A0 n0 l0) (hc0 : n0 ≤ c0) (hr1 : Kd.C k23 w A1 n1 l1) (hc1 : n1 ≤ c1) (h : api_Constraint_19.f k l0 l1 = some r) :
    Calls Tryz.prog 19 #[.slice A0 n0 c0, .slice A1 n1 c1] w fun e w' => e = .returned (.bool r) ∧ Below w.heap.size w w' := by
  subst e0
  subst e1
  exact (api_Constraint_19.calls k A0 c0 l0 A1 c1 l1 r w hr0 hc0 hr1 hc1 h).mono (fun e w' hh => ⟨hh.1, by first | exact hh.2 | exact hh.2.below⟩)
theorem kind_no' (g : Nat) (op : ByteArray) (a k : Int) (w : World) (ht : Aside0 (Er.Typ w)) (hok : (Er.Err.fault g op a (.no k)).ok w) :
    Calls Tryz.prog 20 #[.iface 73 (.pointer (some ⟨g, 0, none⟩))] w fun e w' => e = .returned (.int .i64 k) ∧ Below w.heap.size w w' := by
  refine (Er.kind_any (Er.Err.fault g op a (.no k)) w ht.out hok).mono ?_
  rintro e w' ⟨rfl, h⟩
  exact ⟨rfl, h⟩
theorem con_m (n : Int) : ∃ c : S23, broadsidekeep_Constraint.f (⟨#[109]⟩ : ByteArray) n = some ((⟨#[109]⟩ : ByteArray), c.f1, c.f2, c.f3, c.f4) ∧ okC (⟨(⟨#[109]⟩ : ByteArray), c.f1, c.f2, c.f3, c.f4⟩ : S23) := by
  obtain ⟨c, h, hc⟩ := con_any (⟨#[109]⟩ : ByteArray) n
  refine ⟨c, h, ?_⟩
  unfold okC strip
  have := isC_name hc
  cases c
  simp only at this
  subst this
  exact hc
theorem lit39 {W : World} {g : Nat} (y0 y1 y2 y3 : S39) (h : W.heap[g]? = some (.cells #[.bool y0.f0, .int .i64 y0.f1, .string y0.f2, .bool y1.f0, .int .i64 y1.f1, .string y1.f2, .bool y2.f0, .int .i64 y2.f1, .string y2.f2, .bool y3.f0, .int .i64 y3.f1, .string y3.f2] 39 (0, 0))) : Kd.C k39 W (some ⟨g, 0, none⟩) 4 [y0, y1, y2, y3] := by
  refine ⟨rfl, by omega, fun _ => ⟨⟨g, 0, none⟩, rfl, fun j p hj => ?_⟩⟩
  have key : ∀ (j : Nat) (y : S39), (∀ i u, [Value.bool y.f0, .int .i64 y.f1, .string y.f2][i]? = some u → W.cell? ⟨g, j * 3 + i, none⟩ = some u) → ∃ c, c.length = k39.sz ∧ k39.K W y c ∧ ∀ i u, c[i]? = some u → W.cell? ((⟨g, 0, none⟩ : Addr).add (j * k39.sz + i)) = some u := fun j y hy =>
    ⟨[.bool y.f0, .int .i64 y.f1, .string y.f2], rfl, k39.K_of_M (k39_mkM W 0 (fun _ => True) y), fun i u hu => by rw [Go.Proofs.YtfabnapjbgamaaaGreatDoorW.PrintWords.add_plain]; exact hy i u hu⟩
  match j, hj with
  | 0, hj => cases hj; exact key 0 y0 (fun i u hu => by rw [blk_cell h]; match i, hu with | 0, hu => exact hu | 1, hu => exact hu | 2, hu => exact hu)
  | 1, hj => cases hj; exact key 1 y1 (fun i u hu => by rw [blk_cell h]; match i, hu with | 0, hu => exact hu | 1, hu => exact hu | 2, hu => exact hu)
  | 2, hj => cases hj; exact key 2 y2 (fun i u hu => by rw [blk_cell h]; match i, hu with | 0, hu => exact hu | 1, hu => exact hu | 2, hu => exact hu)
  | 3, hj => cases hj; exact key 3 y3 (fun i u hu => by rw [blk_cell h]; match i, hu with | 0, hu => exact hu | 1, hu => exact hu | 2, hu => exact hu)
theorem vals (n : Int) : ∃ y : S39, broadsidekeep_Value.f n = some (y.f0, y.f1, y.f2) := by
  obtain ⟨y, h⟩ := value_vals n
  exact ⟨⟨y.f0, y.f1, y.f2⟩, h⟩
abbrev s40 (x : S39) : S40 := ⟨x.f0, x.f1, x.f2⟩
noncomputable def mts11 : Array Oper := opsOf Tryz.f5 11
noncomputable def mts11t : List Rg.Ent := [⟨0, 0, some 61, none, Op.buildSlice 25 0 #[]⟩,
  ⟨0, 0, some 62, none, Op.move (Operand.tmp 9)⟩,
  ⟨0, 0, some 63, none, Op.move (Operand.tmp 11)⟩,
  ⟨6, 6, some 64, none, Op.indexAddr 25 (Operand.tmp 62) (Operand.tmp 63)⟩,
  ⟨8, 8, some 65, none, Op.load 23 (Operand.tmp 64)⟩,
  ⟨16, 16, some 66, none, Op.buildSlice 25 1 #[(0, Operand.tmp 65)]⟩,
  ⟨33, 33, some 67, none, Op.call { callee := Callee.builtin Builtin.append, args := #[Operand.tmp 61, Operand.tmp 66], argTypes := #[25, 25] }⟩,
  ⟨0, 0, some 68, none, Op.move (Operand.tmp 9)⟩,
  ⟨0, 0, some 69, none, Op.move (Operand.tmp 11)⟩,
  ⟨384, 384, some 70, none, Op.slice 25 (Operand.tmp 68) none (some (Operand.tmp 69)) none⟩,
  ⟨576, 576, some 71, none, Op.call { callee := Callee.builtin Builtin.append, args := #[Operand.tmp 67, Operand.tmp 70], argTypes := #[25, 25] }⟩,
  ⟨0, 0, some 72, none, Op.move (Operand.tmp 9)⟩,
  ⟨0, 0, some 73, none, Op.move (Operand.tmp 11)⟩,
  ⟨4096, 4096, some 74, none, Op.binOp BinOp.add 3 (Operand.tmp 73) (Operand.const (Value.int IntKind.i64 1)) 3⟩,
  ⟨10240, 10240, some 75, none, Op.slice 25 (Operand.tmp 72) (some (Operand.tmp 74)) none none⟩,
  ⟨17408, 17408, some 76, none, Op.call { callee := Callee.builtin Builtin.append, args := #[Operand.tmp 71, Operand.tmp 75], argTypes := #[25, 25] }⟩,
  ⟨65535, 34946, some 9, none, Op.assign (Operand.tmp 76)⟩]
theorem mts11T : Rg.Tabd .any mts11 17 mts11t := ⟨by kernel_rfl, by kernel_rfl, by kernel_rfl⟩
noncomputable def mts14 : Array Oper := opsOf Tryz.f5 14
noncomputable def mts14t : List Rg.Ent := [⟨0, 0, some 87, none, Op.move (Operand.tmp 13)⟩,
  ⟨1, 1, some 88, none, Op.binOp BinOp.eql 27 (Operand.tmp 87) (Operand.const Value.nilIface) 27⟩,
  ⟨0, 0, some 89, none, Op.move (Operand.tmp 15)⟩,
  ⟨4, 4, some 90, none, Op.binOp BinOp.eql 27 (Operand.tmp 89) (Operand.const Value.nilIface) 27⟩,
  ⟨10, 10, some 91, none, Op.binOp BinOp.neq 4 (Operand.tmp 88) (Operand.tmp 90) 4⟩,
  ⟨16, 16, some 92, none, Op.move (Operand.tmp 91)⟩,
  ⟨32, 32, some 93, some (92, false), Op.move (Operand.tmp 12)⟩,
  ⟨32, 32, some 94, some (92, false), Op.move (Operand.tmp 14)⟩,
  ⟨224, 224, some 95, some (92, false), Op.call { callee := Callee.value (Operand.func 19), args := #[Operand.tmp 93, Operand.tmp 94], argTypes := #[25, 25] }⟩,
  ⟨288, 288, some 96, some (92, false), Op.unOp UnOp.not 4 (Operand.tmp 95)⟩,
  ⟨544, 544, some 97, none, Op.pick (Operand.tmp 92) (Operand.const (Value.bool true)) (Operand.tmp 96)⟩,
  ⟨1280, 1024, some 98, none, Op.move (Operand.tmp 97)⟩,
  ⟨2048, 2048, some 99, some (98, false), Op.move (Operand.tmp 13)⟩,
  ⟨6144, 6144, some 100, some (98, false), Op.binOp BinOp.neq 27 (Operand.tmp 99) (Operand.const Value.nilIface) 27⟩,
  ⟨10240, 10240, some 101, some (98, false), Op.move (Operand.tmp 100)⟩,
  ⟨16384, 16384, some 102, some (101, true), Op.move (Operand.tmp 13)⟩,
  ⟨49152, 49152, some 103, some (101, true), Op.call { callee := Callee.value (Operand.func 20), args := #[Operand.tmp 102], argTypes := #[27] }⟩,
  ⟨81920, 81920, some 104, some (101, true), Op.binOp BinOp.neq 32 (Operand.tmp 103) (Operand.const (Value.int IntKind.i64 5)) 32⟩,
  ⟨149504, 149504, some 105, some (98, false), Op.pick (Operand.tmp 101) (Operand.tmp 104) (Operand.const (Value.bool false))⟩,
  ⟨264192, 264192, some 106, none, Op.pick (Operand.tmp 98) (Operand.const (Value.bool true)) (Operand.tmp 105)⟩]
theorem mts14T : Rg.Tabd .any mts14 20 mts14t := ⟨by kernel_rfl, by kernel_rfl, by kernel_rfl⟩
noncomputable def mts25 : Array Oper := opsOf Tryz.f5 25
noncomputable def mts25t : List Rg.Ent := [⟨0, 0, some 136, none, Op.move (Operand.tmp 7)⟩,
  ⟨1, 1, some 137, none, Op.call { callee := Callee.builtin Builtin.len, args := #[Operand.tmp 136], argTypes := #[25] }⟩,
  ⟨2, 2, some 138, none, Op.binOp BinOp.gtr 3 (Operand.tmp 137) (Operand.const (Value.int IntKind.i64 0)) 3⟩,
  ⟨4, 4, some 139, none, Op.move (Operand.tmp 138)⟩,
  ⟨8, 8, some 140, some (139, true), Op.move (Operand.tmp 18)⟩,
  ⟨8, 8, some 141, some (139, true), Op.move (Operand.tmp 12)⟩,
  ⟨40, 40, some 142, some (139, true), Op.call { callee := Callee.builtin Builtin.len, args := #[Operand.tmp 141], argTypes := #[25] }⟩,
  ⟨72, 72, some 143, some (139, true), Op.binOp BinOp.eql 3 (Operand.tmp 142) (Operand.const (Value.int IntKind.i64 1)) 3⟩,
  ⟨136, 136, some 144, some (139, true), Op.move (Operand.tmp 143)⟩,
  ⟨256, 256, some 145, some (144, true), Op.move (Operand.tmp 12)⟩,
  ⟨768, 768, some 146, some (144, true), Op.indexAddr 25 (Operand.tmp 145) (Operand.const (Value.int IntKind.i64 0))⟩,
  ⟨1280, 1280, some 147, some (144, true), Op.load 23 (Operand.tmp 146)⟩,
  ⟨256, 256, some 148, some (144, true), Op.load 39 (Operand.tmp 17)⟩,
  ⟨6400, 6400, some 149, some (144, true), Op.call { callee := Callee.value (Operand.func 15), args := #[Operand.tmp 147, Operand.tmp 148], argTypes := #[23, 39] }⟩,
  ⟨8456, 8456, some 150, some (139, true), Op.pick (Operand.tmp 144) (Operand.tmp 149) (Operand.const (Value.bool false))⟩,
  ⟨16408, 16408, some 151, some (139, true), Op.binOp BinOp.neq 4 (Operand.tmp 140) (Operand.tmp 150) 4⟩,
  ⟨32776, 32776, some 152, none, Op.pick (Operand.tmp 139) (Operand.tmp 151) (Operand.const (Value.bool false))⟩]
theorem mts25T : Rg.Tabd .any mts25 17 mts25t := ⟨by kernel_rfl, by kernel_rfl, by kernel_rfl⟩
set_option maxHeartbeats 8000000 in
set_option maxRecDepth 1000000 in
theorem Meets.walk (A0 : Option Addr) (c0 : Nat) (l0 : List Int) (v : Int) (A1 : Option Addr) (c1 : Nat) (l1 : List Int) (w : World) (HTAB : Aside0 (Val.Tab w)) (HTYP : Aside0 (Er.Typ w)) (hr0 : Kd.C (Kd.int .i64) w A0 l0.length l0) (hc0 : l0.length ≤ c0) (hr1 : Kd.C (Kd.int .i64) w A1 l1.length l1) (hc1 : l1.length ≤ c1) :
    Calls Tryz.prog 5 #[.slice A0 l0.length c0, .int .i64 v, .slice A1 l1.length c1] w fun e w' => e = .returned (.bool true) ∧ Below w.heap.size w w' := by
  have hu23 := Tryz.underlying23
  have hu25 := Tryz.underlying25
  have hu39 := Tryz.underlying39
  have F0 := Aside0.mk hr0
  have F1 := Aside0.mk hr1
  have hm0 := hr0.2.1
  have hm1 := hr1.2.1
  clear hr0 hr1
  have HB := Aside0.mk (Below.refl w.heap.size w)
  go_enter Tryz.func5, Tryz.ntmps5
  go_upto_block 0 with (fail)
  go_cut [7] (fun s7 wc => ∃ l : List S23, Aside0 (l.length ≤ 4 ∧ ∀ c ∈ l, okC c ∧ c.f0 = (⟨#[109]⟩ : ByteArray)) ∧ Aside0 (Kd.R k23 23 wc w.heap.size (fun _ => True) s7 l) ∧ Aside0 (Below w.heap.size w wc))
  case first =>
    go_wp2_with fail
    go_loopw [7, 8] (fun s7 s8 wr => ∃ (i : Int) (l : List S23), s8 = .int .i64 i ∧ 0 ≤ i ∧ i ≤ 4 ∧ i ≤ (l0.length : Int) ∧ Aside0 ((l.length : Int) = i) ∧ Aside0 (∀ c ∈ l, okC c ∧ c.f0 = (⟨#[109]⟩ : ByteArray)) ∧ Aside0 (Kd.R k23 23 wr w.heap.size (fun _ => True) s7 l) ∧ Aside0 (Below w.heap.size w wr)) (fun _ s8 _ => (4 - Go.RowKit.intOf s8).toNat)
    case atStart => exact ⟨0, [], rfl, by omega, by omega, by omega, ⟨rfl⟩, ⟨fun c hc => by cases hc⟩, ⟨Kd.R_nil _ _ _ _ _⟩, HB⟩
    case round =>
      clear HB
      obtain ⟨i, l, rfl, i0, i4, il, HLE, HOK, HO, HB⟩ := hrel
      have HO_ := Aside0.mk (Below.refl wr.heap.size wr)
      by_cases h1 : i < (l0.length : Int)
      · have d1 : decide (i < (l0.length : Int)) = true := decide_eq_true h1
        by_cases h2 : i < 4
        · have d2 : decide (i < 4) = true := decide_eq_true h2
          have HL : Aside0 (l.length ≤ 4) := ⟨by have := HLE.out; omega⟩
          obtain ⟨ad, ea, hx⟩ := Kd.at_int (Kd.C_below F0.out HB.out) i i0 h1
          obtain ⟨cc, hcn, hco⟩ := con_m (rd l0 i)
          have CN := Aside0.mk hcn
          have CO := Aside0.mk hco
          have p1 := eq_true i0
          have q1 := eq_true h1
          clear hcn hco
          cases ea
          go_wp2_with (first | (go_at_call 17; (with_reducible refine (broadsidekeep_Constraint.calls _ _ _ _ _ _ _ _ CN.out).mono ?_); rintro e wn ⟨rfl, hbn⟩; have HBn := Aside0.mk (below_step (by repeat (first | (with_reducible first | exact HB.out | apply below_alloc | apply pw_below_drewN | apply below_drew1) | exact HB.out)) hbn); clear HB; have HB := HBn; clear HBn; have HO_n := Aside0.mk (below_step (by repeat (first | (with_reducible first | exact HO_.out | apply below_alloc | apply pw_below_drewN | apply below_drew1) | exact HO_.out)) hbn); clear HO_; have HO_ := HO_n; clear HO_n; clear hbn) | (at_builtin; refine Kd.R_append k23 (w0 := w) w.heap.size rfl (.tmp 31) (.tmp 37) 25 23 (.agg #[(.string ⟨#[]⟩), (.int .i64 0), (.int .i64 0), (.int .i64 0), (.string ⟨#[]⟩)]) 56 rfl Tryz.underlying25 info23 rfl (by decide) (by omega) _ l (⟨(⟨#[109]⟩ : ByteArray), cc.f1, cc.f2, cc.f3, cc.f4⟩ : S23) [.string (⟨#[109]⟩ : ByteArray), .int .i64 cc.f1, .int .i64 cc.f2, .int .i64 cc.f3, .string cc.f4] (fun _ => True) (fun _ => False) rfl rfl ?aP (fun _ hk => hk.elim) ?aF ?aO ?aB ?aS ?aL ?_; (case aP => exact k23_mkM _ _ _ (⟨(⟨#[109]⟩ : ByteArray), cc.f1, cc.f2, cc.f3, cc.f4⟩ : S23)); (case aB => exact (by repeat (first | (with_reducible first | exact HB.out | apply below_alloc | apply pw_below_drewN | apply below_drew1) | exact HB.out))); (case aF => exact (fun _ _ => trivial)); (case aO => exact Kd.R_below HO.out (by repeat (first | (with_reducible first | exact HO_.out | apply below_alloc | apply pw_below_drewN | apply below_drew1) | exact HO_.out))); (case aS => exact (below_size (by repeat (first | (with_reducible first | exact HB.out | apply below_alloc | apply pw_below_drewN | apply below_drew1) | exact HB.out)))); (case aL => have := HL.out; omega); intro vq wq ho hb hg hat; clear HB HO HO_; have HB := Aside0.mk hb; have HO := Aside0.mk ho; have HO_ := Aside0.mk (Below.refl wq.heap.size wq); clear hb ho hg hat))
          go_roundw
          case rel => exact ⟨i + 1, l ++ [⟨(⟨#[109]⟩ : ByteArray), cc.f1, cc.f2, cc.f3, cc.f4⟩], rfl, by omega, by omega, by omega, ⟨by have := HLE.out; simp; omega⟩, ⟨fun c hc => by
            rcases List.mem_append.1 hc with h | h
            · exact HOK.out c h
            · rw [List.mem_singleton.1 h]; exact ⟨CO.out, rfl⟩⟩, HO, HB⟩
          case measure => simp [Go.RowKit.intOf]; omega
        · have d2 : decide (i < 4) = false := decide_eq_false h2
          go_wp2_with fail
          go_meet
          exact ⟨l, ⟨by have := HLE.out; omega, HOK.out⟩, HO, HB⟩
      · have d1 : decide (i < (l0.length : Int)) = false := decide_eq_false h1
        go_wp2_with fail
        go_meet
        exact ⟨l, ⟨by have := HLE.out; omega, HOK.out⟩, HO, HB⟩
  case rest =>
    clear HB
    obtain ⟨l, HL, HO, HB⟩ := hcut
    obtain ⟨Al, cl, e7, hcl, hCl⟩ := Kd.R_reads HO.out
    subst e7
    have CLl := Aside0.mk hCl
    clear hCl HO
    have H7 := Aside0.mk (Below.refl wc.heap.size wc)
    have hll : l.length ≤ 4 := HL.out.1
    go_upto_region 6 with (fail)
    have he := k23_empty' wc wc.heap.size (Nat.le_refl _)
    have hbe : Below wc.heap.size wc (wc.alloc (.cells #[] 23)) := below_alloc (Below.refl _ _) _
    have hbs : wc.heap.size ≤ (wc.alloc (.cells #[] 23)).heap.size := hbe.size
    have hR0 := Kd.C_below CLl.out hbe
    have hinfo := info23'
    go_upto_block 2 with (at_builtin; refine Kd.R_append_rows k23 (w0 := wc) wc.heap.size rfl (.tmp 39) (.tmp 40) 25 23 _ 56 rfl hu25 hinfo rfl (by decide) (by decide) _ [] l Al l.length cl (fun _ => True) (fun _ => False) rfl rfl he hR0 k23_KM' (fun _ h => h.elim) (fun _ _ => trivial) hbe hbs (by simp; omega) ?_; intro v9 w9 hR9 hb9 hg9 ha9; rw [List.nil_append] at hR9)
    clear he hbe hbs hR0 hinfo hg9 ha9
    have HO9 := Aside0.mk hR9
    have HC9 := Aside0.mk hb9
    clear hR9 hb9 H7
    go_cut [9] (fun s9 wd => ∃ t : List S23, Aside0 (t.Perm l) ∧ Aside0 (Kd.R k23 23 wd wc.heap.size (fun _ => True) s9 t) ∧ Aside0 (Below wc.heap.size wc wd) ∧ Aside0 (Below w.heap.size w wd))
    case first =>
      go_wp2_with fail
      have HB9 := Aside0.mk (below_step HB.out HC9.out)
      go_loopw [9, 10, 11] (fun s9 s10 s11 wr => ∃ (i : Int) (t : List S23), s10 = .int .i64 i ∧ 0 ≤ i ∧ i ≤ (l1.length : Int) ∧ Aside0 (t.Perm l) ∧ Aside0 (Kd.R k23 23 wr wc.heap.size (fun _ => True) s9 t) ∧ Aside0 (Below wc.heap.size wc wr) ∧ Aside0 (Below w.heap.size w wr)) (fun _ s10 _ _ => ((l1.length : Int) - Go.RowKit.intOf s10).toNat)
      case atStart => exact ⟨0, l, rfl, by omega, by omega, ⟨List.Perm.refl _⟩, HO9, HC9, HB9⟩
      case round =>
        clear HO9 HC9 HB9 HB
        obtain ⟨i, t, rfl, i0, il, HP, HO, HA, HB⟩ := hrel
        obtain ⟨At, ct, e9, hct, hCt⟩ := Kd.R_reads HO.out
        subst e9
        have htl : t.length ≤ 4 := by rw [HP.out.length_eq]; exact hll
        by_cases h1 : i < (l1.length : Int)
        · have d1 : decide (i < (l1.length : Int)) = true := decide_eq_true h1
          by_cases h2 : 1 < t.length
          · have d2 : decide (1 < (t.length : Int)) = true := decide_eq_true (by omega)
            have d3 : decide (1 < t.length) = true := decide_eq_true h2
            obtain ⟨ad1, ea1, hx1⟩ := Kd.at_int (Kd.C_below F1.out HB.out) i i0 h1
            have p1 := eq_true i0
            have q1 := eq_true h1
            cases ea1
            have hz : 0 ≤ rd l1 i % ((t.length : Int) - 1 + 1) := Int.emod_nonneg _ (by omega)
            have hz2 : rd l1 i % ((t.length : Int) - 1 + 1) < (t.length : Int) - 1 + 1 := Int.emod_lt_of_pos _ (by omega)
            obtain ⟨m, hm⟩ : ∃ m : Nat, rd l1 i % ((t.length : Int) - 1 + 1) = (m : Int) := ⟨(rd l1 i % ((t.length : Int) - 1 + 1)).toNat, (Int.toNat_of_nonneg hz).symm⟩
            have hmt : m < t.length := by omega
            have WM : Aside0 (broadsidebook_Within.f (rd l1 i) 0 ((t.length : Int) - 1) = some (m : Int)) := ⟨by rw [fo_within _ _ (by omega) (by omega), hm]⟩
            clear hz hz2 hm
            obtain ⟨g9, cq, eq, hcq, hCq, hX⟩ := cell_R HO.out (by intro h; rw [h] at h2; simp at h2)
            cases eq
            have H9 := Aside0.mk (Below.refl wr.heap.size wr)
            have CQ := Aside0.mk hCq
            have HX := Aside0.mk hX
            have hlt : (1 : Int) < (t.length : Int) := by omega
            clear hCq hX hCt HO
            go_upto_region 11 with (go_at_call 18; (with_reducible refine (broadsidebook_Within.calls _ _ _ _ _ WM.out).mono ?_); rintro e wi ⟨rfl, hbi⟩; have hbi := (by first | exact hbi | exact hbi.below : Below _ _ _); have HBn := Aside0.mk (below_step (by repeat (first | (with_reducible first | exact HB.out | apply below_alloc | apply pw_below_drewN | apply below_drew1) | exact HB.out)) hbi); clear HB; have HB := HBn; clear HBn; have HAn := Aside0.mk (below_step (by repeat (first | (with_reducible first | exact HA.out | apply below_alloc | apply pw_below_drewN | apply below_drew1) | exact HA.out)) hbi); clear HA; have HA := HAn; clear HAn; have H9n := Aside0.mk (below_step (by repeat (first | (with_reducible first | exact H9.out | apply below_alloc | apply pw_below_drewN | apply below_drew1) | exact H9.out)) hbi); clear H9; have H9 := H9n; clear H9n; clear hbi)
            clear hx1 d1 d2 d3 WM
            obtain ⟨W11, rfl⟩ : ∃ W : World, W = wi := ⟨_, rfl⟩
            have HA0 := Aside0.mk HA.out.size
            have HPN : Aside0 (([t.getD m z23] ++ t.take m ++ t.drop (m + 1)).Perm l) := ⟨by
              refine List.Perm.trans ?_ HP.out
              conv => rhs; rw [← List.take_append_drop m t, drop_get t m hmt]
              rw [List.append_assoc]
              show (t.getD m z23 :: (t.take m ++ t.drop (m + 1))).Perm _
              exact List.perm_middle.symm⟩
            have hxs := HX.out m hmt
            have hc4 := Kd.C_below CQ.out (by repeat (first | (with_reducible first | exact H9.out | apply below_alloc | apply pw_below_drewN | apply below_drew1) | exact H9.out))
            have ht4 := Kd.C_take hc4 (Nat.le_of_lt hmt)
            have hd4 := Kd.C_drop (c := ct) (m := m + 1) hc4 (by omega) hct
            obtain ⟨i0', hi, hz0, hz1, hz2⟩ := info_parts info23'
            have hf := cut_from (P := Tryz.prog) 25 23 .i64 hu25 hi 5 hz1 (some ⟨g9, 0, none⟩) t.length ct ((m : Int) + 1) (by omega) (by omega)
            have hto := cut_to (P := Tryz.prog) 25 23 .i64 hu25 hi (some ⟨g9, 0, none⟩) t.length ct (m : Int) (by omega) (by omega) hct
            rw [show ((m : Int) + 1).toNat = m + 1 by omega] at hf
            rw [Int.toNat_natCast] at hto
            rw [show k23.sz = 5 from rfl, List.length_drop] at hd4
            rw [List.length_take, Nat.min_eq_left (Nat.le_of_lt hmt)] at ht4
            generalize (if ct = m + 1 then (some (⟨g9, 0, none⟩ : Addr)) else Option.map (·.add ((m + 1) * 5)) (some (⟨g9, 0, none⟩ : Addr))) = Ad at hd4 hf
            have hnd : t.length - (m + 1) ≤ 4 := by omega
            generalize t.length - (m + 1) = nd at hd4 hf hnd
            generalize ct - (m + 1) = cd at hf
            have CT := Aside0.mk ht4
            have CD := Aside0.mk hd4
            have FF := Aside0.mk hf
            have FT := Aside0.mk hto
            have QA := Aside0.mk (show (0 : Int) ≤ (m : Int) by omega)
            have QB := Aside0.mk (show (m : Int) ≤ 4 by omega)
            have IDX : Aside0 (∀ W : World, (Instr.indexAt 25 (.slice (some ⟨g9, 0, none⟩) t.length ct) (.int .i64 (m : Int))).run Tryz.prog W = .ok (.pointer (some ⟨g9, m * 5, none⟩)) W) := ⟨fun W => by
              have qa : (m : Int) < (t.length : Int) := by omega
              have qb : (0 : Int) ≤ (m : Int) := by omega
              have qc := eq_true hmt
              go_simp⟩
            generalize hxg : t.getD m z23 = x at hxs HPN
            generalize hnt : t.length = nt at IDX FF FT ⊢
            have LDX : Aside0 (∀ w', Below W11.heap.size W11 w' → (Instr.loadAt 23 (.pointer (some ⟨g9, m * 5, none⟩))).run Tryz.prog w' = .ok (.agg #[.string x.f0, .int .i64 x.f1, .int .i64 x.f2, .int .i64 x.f3, .string x.f4]) w') := ⟨fun w' hs => by
              obtain ⟨s0, s1, s2, s3, s4⟩ := hxs w' (below_step H9.out hs)
              go_simp⟩
            clear hxs hc4 ht4 hd4 hf hto hi hz0 hz1 hz2 hxg CQ HX H9
            refine Rg.start mts11 (fun w' => Below W11.heap.size W11 w') 155 17 151113421608819433144832 [(0, .slice A0 l0.length c0), (1, .int .i64 v), (2, .slice (some ad1) l1.length c1), (6, .bool false), (7, .slice Al l.length cl), (9, .slice (some ⟨g9, 0, none⟩) nt ct), (10, .int .i64 i), (11, .int .i64 (m : Int))] mts11t (by kernel_rfl) (by kernel_rfl) mts11T (by decide) (fun c a a' w e h => ⟨e ▸ h.1, h.2⟩) (by kernel_rfl) ⟨rfl, rfl, rfl, rfl, rfl, rfl, rfl, rfl, trivial⟩ (below_drew1 (Below.refl _ _)) (fun Q' C HE hS => ?_)
            have hb0 : Below W11.heap.size W11 W11.drew := below_drew1 (Below.refl _ _)
            generalize W11.drew = V0 at hb0 hS ⊢
            refine Rg.move C 1 62 2 (.slice (some ⟨g9, 0, none⟩) nt ct) (by kernel_rfl) (by kernel_rfl) ?_
            refine Rg.move C 2 63 6 (.int .i64 (m : Int)) (by kernel_rfl) (by kernel_rfl) ?_
            refine Rg.gen C hS 3 64 14 (.pointer (some ⟨g9, m * 5, none⟩)) (Op.indexAddr 25 (Operand.tmp 62) (Operand.tmp 63)) [(Operand.tmp 62, .slice (some ⟨g9, 0, none⟩) nt ct), (Operand.tmp 63, .int .i64 (m : Int))] (by kernel_rfl) (by kernel_rfl) (by kernel_rfl) (fun o ho ρ h w hS => by have h1 := h _ (.head _); have h2 := h _ (.tail _ (.head _)); simp only at h1 h2; clear h; unfold execOp; simp only [ho, h1, h2]; simp [IDX.out w]) ?_
            refine Rg.gen C hS 4 65 30 (.agg #[.string x.f0, .int .i64 x.f1, .int .i64 x.f2, .int .i64 x.f3, .string x.f4]) (Op.load 23 (Operand.tmp 64)) [(Operand.tmp 64, .pointer (some ⟨g9, m * 5, none⟩))] (by kernel_rfl) (by kernel_rfl) (by kernel_rfl) (fun o ho ρ h w hS => by have h1 := h _ (.head _); simp only at h1; clear h; unfold execOp; simp only [ho, h1]; simp [LDX.out w hS]) ?_
            refine Rg.move C 7 68 158 (.slice (some ⟨g9, 0, none⟩) nt ct) (by kernel_rfl) (by kernel_rfl) ?_
            refine Rg.move C 8 69 414 (.int .i64 (m : Int)) (by kernel_rfl) (by kernel_rfl) ?_
            refine Rg.gen C hS 9 70 926 (.slice (some ⟨g9, 0, none⟩) m ct) (Op.slice 25 (Operand.tmp 68) none (some (Operand.tmp 69)) none) [(Operand.tmp 68, .slice (some ⟨g9, 0, none⟩) nt ct), (Operand.tmp 69, .int .i64 (m : Int))] (by kernel_rfl) (by kernel_rfl) (by kernel_rfl) (fun o ho ρ h w hS => by have h1 := h _ (.head _); have h2 := h _ (.tail _ (.head _)); simp only at h1 h2; clear h; unfold execOp; simp only [ho, h1, h2]; simp [Instr.sliceAt, h2, FT.out w]) ?_
            refine Rg.move C 11 72 2974 (.slice (some ⟨g9, 0, none⟩) nt ct) (by kernel_rfl) (by kernel_rfl) ?_
            refine Rg.move C 12 73 7070 (.int .i64 (m : Int)) (by kernel_rfl) (by kernel_rfl) ?_
            refine Rg.gen C hS 13 74 15262 (.int .i64 ((m : Int) + 1)) (Op.binOp BinOp.add 3 (Operand.tmp 73) (Operand.const (Value.int IntKind.i64 1)) 3) [(Operand.tmp 73, .int .i64 (m : Int)), (Operand.const (Value.int IntKind.i64 1), Value.int IntKind.i64 1)] (by kernel_rfl) (by kernel_rfl) (by kernel_rfl) (fun o ho ρ h w hS => by have h1 := h _ (.head _); have h2 := h _ (.tail _ (.head _)); simp only at h1 h2; clear h; unfold execOp; simp only [ho, h1, h2]; have qa := QA.out; have qb := QB.out; go_simp; rw [IntKind.wrap_i64]; omega) ?_
            refine Rg.gen C hS 14 75 31646 (.slice Ad nd cd) (Op.slice 25 (Operand.tmp 72) (some (Operand.tmp 74)) none none) [(Operand.tmp 72, .slice (some ⟨g9, 0, none⟩) nt ct), (Operand.tmp 74, .int .i64 ((m : Int) + 1))] (by kernel_rfl) (by kernel_rfl) (by kernel_rfl) (fun o ho ρ h w hS => by have h1 := h _ (.head _); have h2 := h _ (.tail _ (.head _)); simp only at h1 h2; clear h; unfold execOp; simp only [ho, h1, h2]; simp [Instr.sliceAt, h2, FF.out w]) ?_
            refine Rg.join (σ := Nat × Nat) 31679 4 (fun s => [(0, .slice A0 l0.length c0), (1, .int .i64 v), (2, .slice (some ad1) l1.length c1), (6, .bool false), (7, .slice Al l.length cl), (10, .int .i64 i), (70, .slice (some ⟨g9, 0, none⟩) m ct), (75, .slice Ad nd cd), (61, .slice (some ⟨s.1, 0, none⟩) 0 0), (66, .slice (some ⟨s.2, 0, none⟩) 1 1)]) (fun s W => Below W11.heap.size W11 W ∧ Kd.R k23 23 W W11.heap.size (fun _ => True) (.slice (some ⟨s.1, 0, none⟩) 0 0) [] ∧ Kd.C k23 W (some ⟨s.2, 0, none⟩) 1 [x]) ?_ ?_
            · rintro ⟨ga, gb⟩ W ⟨hbW, hRa, hCb⟩
              refine Rg.raw C 6 67 31743 (Op.call { callee := Callee.builtin Builtin.append, args := #[Operand.tmp 61, Operand.tmp 66], argTypes := #[25, 25] }) (by kernel_rfl) (by kernel_rfl) (fun a hF o ho hod hwt K hK => ?_)
              refine Kd.R_append_rows_step k23 (w0 := W11) W11.heap.size hwt (.tmp 61) (.tmp 66) 25 23 _ 56 ho Tryz.underlying25 info23' rfl (by decide) (by decide) (.slice (some ⟨ga, 0, none⟩) 0 0) [] [x] (some ⟨gb, 0, none⟩) 1 1 (fun _ => True) (fun _ => False) ((hF.ev (by kernel_rfl)).trans (by kernel_rfl)) ((hF.ev (by kernel_rfl)).trans (by kernel_rfl)) hRa hCb k23_KM' (fun _ h => h.elim) (fun _ _ => trivial) hbW hbW.size (by simp) (fun vv3 ww3 hR3 hb3 hg3 ha3 => ?_)
              refine hK.out _ _ hb3 ?_
              clear hg3 ha3 hK K hF hwt ho hod o a
              rw [List.nil_append] at hR3
              refine Rg.raw C 10 71 32767 (Op.call { callee := Callee.builtin Builtin.append, args := #[Operand.tmp 67, Operand.tmp 70], argTypes := #[25, 25] }) (by kernel_rfl) (by kernel_rfl) (fun a hF o ho hod hwt K hK => ?_)
              refine Kd.R_append_rows_step k23 (w0 := W11) W11.heap.size hwt (.tmp 67) (.tmp 70) 25 23 _ 56 ho Tryz.underlying25 info23' rfl (by decide) (by decide) (vv3) [x] (t.take m) (some ⟨g9, 0, none⟩) m ct (fun _ => True) (fun _ => False) ((hF.ev (by kernel_rfl)).trans (by kernel_rfl)) ((hF.ev (by kernel_rfl)).trans (by kernel_rfl)) hR3 (Kd.C_below CT.out hb3) k23_KM' (fun _ h => h.elim) (fun _ _ => trivial) hb3 hb3.size (by simp; omega) (fun vv4 ww4 hR4 hb4 hg4 ha4 => ?_)
              refine hK.out _ _ hb4 ?_
              clear hg4 ha4 hK K hF hwt ho hod o a
              refine Rg.raw C 15 76 65535 (Op.call { callee := Callee.builtin Builtin.append, args := #[Operand.tmp 71, Operand.tmp 75], argTypes := #[25, 25] }) (by kernel_rfl) (by kernel_rfl) (fun a hF o ho hod hwt K hK => ?_)
              refine Kd.R_append_rows_step k23 (w0 := W11) W11.heap.size hwt (.tmp 71) (.tmp 75) 25 23 _ 56 ho Tryz.underlying25 info23' rfl (by decide) (by decide) (vv4) ([x] ++ t.take m) (t.drop (m + 1)) Ad nd cd (fun _ => True) (fun _ => False) ((hF.ev (by kernel_rfl)).trans (by kernel_rfl)) ((hF.ev (by kernel_rfl)).trans (by kernel_rfl)) hR4 (Kd.C_below CD.out hb4) k23_KM' (fun _ h => h.elim) (fun _ _ => trivial) hb4 hb4.size (by simp; omega) (fun vv5 ww5 hR5 hb5 hg5 ha5 => ?_)
              refine hK.out _ _ hb5 ?_
              clear hg5 ha5 hK K hF hwt ho hod o a
              refine Rg.move C 16 9 131071 (vv5) (by kernel_rfl) (by kernel_rfl) ?_
              refine Rg.done_set C [(9, some (vv5)), (61, none), (62, none), (63, none), (64, none), (65, none), (66, none), (67, none), (68, none), (69, none), (70, none), (71, none), (72, none), (73, none), (74, none), (75, none), (76, none)] (by kernel_rfl) (by kernel_rfl) (by kernel_rfl) (by kernel_rfl) (by kernel_rfl) (fun u => HE.out _ _ ?_)
              simp only [Rg.sets, List.map_cons, List.map_nil, Option.getD_some, Option.getD_none, List.foldl_cons, List.foldl_nil]
              simp only [List.set_cons_succ, List.set_cons_zero]
              have HB := Aside0.mk (below_step HB.out hb5)
              have HA := Aside0.mk (below_step HA.out hb5)
              have HO := Aside0.mk (Kd.R_lower hR5 HA0.out)
              clear hb3 hb4 hb5 hR3 hR4 hR5 hbW hRa hCb hS hb0 HE C IDX LDX FT FF CT CD
              go_wp2_with fail
              go_roundw
              case rel => exact ⟨i + 1, [x] ++ t.take m ++ t.drop (m + 1), rfl, by omega, by omega, ⟨HPN.out⟩, HO, HA, HB⟩
              case measure => simp [Go.RowKit.intOf]; omega
            · intro hJ
              refine Rg.two C 0 61 31647 (.slice (some ⟨V0.heap.size, 0, none⟩) 0 0) (V0.alloc (.cells #[] 23)) (Op.buildSlice 25 0 #[]) [] 5 66 31678 (.slice (some ⟨V0.heap.size, 0, none⟩) 1 1) (V0.alloc (.cells #[.string x.f0, .int .i64 x.f1, .int .i64 x.f2, .int .i64 x.f3, .string x.f4] 23)) (Op.buildSlice 25 1 #[(0, Operand.tmp 65)]) [(Operand.tmp 65, .agg #[.string x.f0, .int .i64 x.f1, .int .i64 x.f2, .int .i64 x.f3, .string x.f4])] (by kernel_rfl) (by kernel_rfl) (by kernel_rfl) (by kernel_rfl) (by kernel_rfl) (fun o ho ρ h => by clear h; unfold execOp; simp only [ho]; go_simp) (below_alloc hb0 _) (fun o ho ρ h => by have h1 := h _ (.head _); simp only at h1; clear h; unfold execOp; simp only [ho]; simp [h1]; go_simp) (below_alloc hb0 _) ?_ ?_
              · obtain ⟨W1, hW1⟩ : ∃ W, W = V0.alloc (.cells #[] 23) := ⟨_, rfl⟩
                have hb1 : Below W11.heap.size W11 W1 := by rw [hW1]; exact below_alloc hb0 _
                have hR1 : Kd.R k23 23 W1 W11.heap.size (fun _ => True) (.slice (some ⟨V0.heap.size, 0, none⟩) 0 0) [] := by rw [hW1]; exact k23_empty' V0 _ hb0.size
                rw [← hW1]
                refine Rg.make C 5 66 31679 (.slice (some ⟨W1.heap.size, 0, none⟩) 1 1) (W1.alloc (.cells #[.string x.f0, .int .i64 x.f1, .int .i64 x.f2, .int .i64 x.f3, .string x.f4] 23)) (Op.buildSlice 25 1 #[(0, Operand.tmp 65)]) [(Operand.tmp 65, .agg #[.string x.f0, .int .i64 x.f1, .int .i64 x.f2, .int .i64 x.f3, .string x.f4])] (by kernel_rfl) (by kernel_rfl) (by kernel_rfl) (fun o ho ρ h => by have h1 := h _ (.head _); simp only at h1; clear h; unfold execOp; simp only [ho]; simp [h1]; go_simp) (below_alloc hb1 _) ?_
                exact (hJ (_, _) _ ⟨below_alloc hb1 _, Kd.R_below hR1 (below_alloc (Below.refl _ _) _), lit23 [x] 1 _ rfl (by simp) rfl (heap_alloc_new W1 _)⟩).sub (by kernel_rfl) (by kernel_rfl)
              · obtain ⟨W1, hW1⟩ : ∃ W, W = V0.alloc (.cells #[.string x.f0, .int .i64 x.f1, .int .i64 x.f2, .int .i64 x.f3, .string x.f4] 23) := ⟨_, rfl⟩
                have hb1 : Below W11.heap.size W11 W1 := by rw [hW1]; exact below_alloc hb0 _
                have hC1 : Kd.C k23 W1 (some ⟨V0.heap.size, 0, none⟩) 1 [x] := by rw [hW1]; exact lit23 [x] 1 _ rfl (by simp) rfl (heap_alloc_new V0 _)
                rw [← hW1]
                refine Rg.make C 0 61 31679 (.slice (some ⟨W1.heap.size, 0, none⟩) 0 0) (W1.alloc (.cells #[] 23)) (Op.buildSlice 25 0 #[]) [] (by kernel_rfl) (by kernel_rfl) (by kernel_rfl) (fun o ho ρ h => by clear h; unfold execOp; simp only [ho]; go_simp) (below_alloc hb1 _) ?_
                exact (hJ (_, _) _ ⟨below_alloc hb1 _, k23_empty' W1 _ hb1.size, Kd.C_below hC1 (below_alloc (Below.refl _ _) _)⟩).sub (by kernel_rfl) (by kernel_rfl)
          · have d2 : decide (1 < (t.length : Int)) = false := decide_eq_false (by omega)
            have d3 : decide (1 < t.length) = false := decide_eq_false h2
            go_wp2_with fail
            go_meet
            exact ⟨t, HP, HO, HA, HB⟩
        · have d1 : decide (i < (l1.length : Int)) = false := decide_eq_false h1
          go_wp2_with fail
          go_meet
          exact ⟨t, HP, HO, HA, HB⟩
    case rest =>
      clear HB HO9 HC9
      obtain ⟨t, HP, HO, HA, HB⟩ := hcut
      obtain ⟨At, ct, e9, hct, hCt⟩ := Kd.R_reads HO.out
      subst e9
      have CTt := Aside0.mk hCt
      have HD := Aside0.mk (Below.refl wc.heap.size wc)
      have htl : t.length ≤ 4 := by rw [HP.out.length_eq]; exact hll
      clear hCt HO
      obtain ⟨y0, hy0⟩ := vals v
      obtain ⟨y1, hy1⟩ := vals (wrap64 (v + 1))
      have VA := Aside0.mk hy0
      have VB := Aside0.mk hy1
      clear hy0 hy1
      by_cases hl0 : l = []
      · have ht0 : t = [] := by have := HP.out; rw [hl0] at this; exact this.eq_nil
        obtain ⟨P, hP⟩ : ∃ P : List S23, P = [] := ⟨_, rfl⟩
        have M1 : Aside0 (pred_MakeE.f 30 l = some (.ok P)) := ⟨by rw [hl0, hP]; rfl⟩
        have M2 : Aside0 (pred_MakeE.f 30 t = some (.ok P)) := ⟨by rw [ht0, hP]; rfl⟩
        have S1 : Aside0 (api_Constraint_19.f 30 P P = some true) := ⟨by rw [hP]; rfl⟩
        have hl1 : Aside0 (l.length = 0) := ⟨by rw [hl0]; rfl⟩
        clear hl0 ht0 hP
        go_upto_region 13 with (go_at_call 9; (with_reducible refine (mkE_n 30 Al l.length cl l rfl _ _ ?s1 ?s2 M1.out).mono ?_); (case s1 => exact Kd.C_below CLl.out (by repeat (first | (with_reducible first | exact HA.out | apply below_alloc | apply pw_below_drewN | apply below_drew1) | exact HA.out))); (case s2 => omega); rintro e w1 ⟨v1, x1, rfl, ⟨rfl, hR1⟩, hb1⟩; have HBn := Aside0.mk (below_step (by repeat (first | (with_reducible first | exact HB.out | apply below_alloc | apply pw_below_drewN | apply below_drew1) | exact HB.out)) hb1); clear HB; have HB := HBn; clear HBn; have HAn := Aside0.mk (below_step (by repeat (first | (with_reducible first | exact HA.out | apply below_alloc | apply pw_below_drewN | apply below_drew1) | exact HA.out)) hb1); clear HA; have HA := HAn; clear HAn; have HDn := Aside0.mk (below_step (by repeat (first | (with_reducible first | exact HD.out | apply below_alloc | apply pw_below_drewN | apply below_drew1) | exact HD.out)) hb1); clear HD; have HD := HDn; clear HDn; clear hb1; have HP1 := Aside0.mk (Below.refl w1.heap.size w1))
        go_upto_region 14 with (go_at_call 9; (with_reducible refine (mkE_n 30 At t.length ct t rfl _ _ ?s1 ?s2 M2.out).mono ?_); (case s1 => exact Kd.C_below CTt.out (by repeat (first | (with_reducible first | exact HD.out | apply below_alloc | apply pw_below_drewN | apply below_drew1) | exact HD.out))); (case s2 => omega); rintro e w2 ⟨v2, x2, rfl, ⟨rfl, hR2⟩, hb2⟩; have HBn := Aside0.mk (below_step (by repeat (first | (with_reducible first | exact HB.out | apply below_alloc | apply pw_below_drewN | apply below_drew1) | exact HB.out)) hb2); clear HB; have HB := HBn; clear HBn; have HAn := Aside0.mk (below_step (by repeat (first | (with_reducible first | exact HA.out | apply below_alloc | apply pw_below_drewN | apply below_drew1) | exact HA.out)) hb2); clear HA; have HA := HAn; clear HAn; have HDn := Aside0.mk (below_step (by repeat (first | (with_reducible first | exact HD.out | apply below_alloc | apply pw_below_drewN | apply below_drew1) | exact HD.out)) hb2); clear HD; have HD := HDn; clear HDn; have HP1n := Aside0.mk (below_step (by repeat (first | (with_reducible first | exact HP1.out | apply below_alloc | apply pw_below_drewN | apply below_drew1) | exact HP1.out)) hb2); clear HP1; have HP1 := HP1n; clear HP1n; clear hb2)
        obtain ⟨Ap, cp, rfl, hcp, hC1⟩ := Kd.R_reads hR1
        obtain ⟨Aq, cq, rfl, hcq, hC2⟩ := Kd.R_reads hR2
        have CP := Aside0.mk hC1
        have CQ := Aside0.mk hC2
        clear hC1 hC2 hR1 hR2
        refine Rg.start mts14 (fun w' => Below w2.heap.size w2 w') 155 20 162259122086708452719043647897600 [(12, .slice Ap P.length cp), (13, .nilIface), (14, .slice Aq P.length cq), (15, .nilIface)] mts14t (by kernel_rfl) (by kernel_rfl) mts14T (by decide) (fun c a a' w e h => ⟨e ▸ h.1, h.2⟩) (by kernel_rfl) ⟨rfl, rfl, rfl, rfl, trivial⟩ (below_drew1 (Below.refl _ _)) (fun Q' C HE hS => ?_)
        have hb0 : Below w2.heap.size w2 w2.drew := below_drew1 (Below.refl _ _)
        generalize w2.drew = V0 at hb0 hS ⊢
        refine Rg.move C 0 87 1 (.nilIface) (by kernel_rfl) (by kernel_rfl) ?_
        refine Rg.gen C hS 1 88 3 (.bool true) (Op.binOp BinOp.eql 27 (Operand.tmp 87) (Operand.const Value.nilIface) 27) [(Operand.tmp 87, .nilIface), (Operand.const Value.nilIface, Value.nilIface)] (by kernel_rfl) (by kernel_rfl) (by kernel_rfl) (fun o ho ρ h w hS => by have h1 := h _ (.head _); have h2 := h _ (.tail _ (.head _)); simp only at h1 h2; clear h; unfold execOp; simp only [ho, h1, h2]; go_simp) ?_
        refine Rg.move C 2 89 7 (.nilIface) (by kernel_rfl) (by kernel_rfl) ?_
        refine Rg.gen C hS 3 90 15 (.bool true) (Op.binOp BinOp.eql 27 (Operand.tmp 89) (Operand.const Value.nilIface) 27) [(Operand.tmp 89, .nilIface), (Operand.const Value.nilIface, Value.nilIface)] (by kernel_rfl) (by kernel_rfl) (by kernel_rfl) (fun o ho ρ h w hS => by have h1 := h _ (.head _); have h2 := h _ (.tail _ (.head _)); simp only at h1 h2; clear h; unfold execOp; simp only [ho, h1, h2]; go_simp) ?_
        refine Rg.gen C hS 4 91 31 (.bool false) (Op.binOp BinOp.neq 4 (Operand.tmp 88) (Operand.tmp 90) 4) [(Operand.tmp 88, .bool true), (Operand.tmp 90, .bool true)] (by kernel_rfl) (by kernel_rfl) (by kernel_rfl) (fun o ho ρ h w hS => by have h1 := h _ (.head _); have h2 := h _ (.tail _ (.head _)); simp only at h1 h2; clear h; unfold execOp; simp only [ho, h1, h2]; go_simp) ?_
        refine Rg.move C 5 92 63 (.bool false) (by kernel_rfl) (by kernel_rfl) ?_
        refine Rg.move C 6 93 127 (.slice Ap P.length cp) (by kernel_rfl) (by kernel_rfl) ?_
        refine Rg.move C 7 94 255 (.slice Aq P.length cq) (by kernel_rfl) (by kernel_rfl) ?_
        refine Rg.call C 8 95 511 #[.slice Ap P.length cp, .slice Aq P.length cq] (by kernel_rfl) Tryz.func19 (by kernel_rfl) rfl (by kernel_rfl) ?_
        refine (same_n' 30 Ap P.length cp P rfl Aq P.length cq P rfl true _ (Kd.C_below CP.out (below_step HP1.out hb0)) hcp (Kd.C_below CQ.out hb0) hcq S1.out).mono ?_
        rintro e V1 ⟨rfl, hbc⟩
        have hb1 : Below w2.heap.size w2 V1 := below_step hb0 hbc
        refine ⟨_, rfl, hb1, ?_⟩
        have hS := hb1
        refine Rg.gen C hS 9 96 1023 (Value.bool false) (Op.unOp UnOp.not 4 (Operand.tmp 95)) [(Operand.tmp 95, .bool true)] (by kernel_rfl) (by kernel_rfl) (by kernel_rfl) (fun o ho ρ h w hS => by have h1 := h _ (.head _); simp only at h1; clear h; unfold execOp; simp only [ho, h1]; rfl) ?_
        refine Rg.pick C 10 97 2047 (Value.bool false) (by kernel_rfl) (by kernel_rfl) ?_
        refine Rg.move C 11 98 4095 (Value.bool false) (by kernel_rfl) (by kernel_rfl) ?_
        refine Rg.move C 12 99 8191 (.nilIface) (by kernel_rfl) (by kernel_rfl) ?_
        refine Rg.gen C hS 13 100 16383 (.bool false) (Op.binOp BinOp.neq 27 (Operand.tmp 99) (Operand.const Value.nilIface) 27) [(Operand.tmp 99, .nilIface), (Operand.const Value.nilIface, Value.nilIface)] (by kernel_rfl) (by kernel_rfl) (by kernel_rfl) (fun o ho ρ h w hS => by have h1 := h _ (.head _); have h2 := h _ (.tail _ (.head _)); simp only at h1 h2; clear h; unfold execOp; simp only [ho, h1, h2]; go_simp) ?_
        refine Rg.move C 14 101 32767 (.bool false) (by kernel_rfl) (by kernel_rfl) ?_
        refine Rg.off C 15 102 65535 (by kernel_rfl) ?_
        refine Rg.off C 16 103 131071 (by kernel_rfl) ?_
        refine Rg.off C 17 104 262143 (by kernel_rfl) ?_
        refine Rg.pick C 18 105 524287 (Value.bool false) (by kernel_rfl) (by kernel_rfl) ?_
        refine Rg.pick C 19 106 1048575 (Value.bool false) (by kernel_rfl) (by kernel_rfl) ?_
        refine Rg.done_set C [(87, none), (88, none), (89, none), (90, none), (91, none), (92, none), (93, none), (94, none), (95, none), (96, none), (97, none), (98, none), (99, none), (100, none), (101, none), (102, none), (103, none), (104, none), (105, none), (106, some (Value.bool false))] (by kernel_rfl) (by kernel_rfl) (by kernel_rfl) (by kernel_rfl) (by kernel_rfl) (fun u => HE.out _ _ ?_)
        simp only [Rg.sets, List.map_cons, List.map_nil, Option.getD_some, Option.getD_none, List.foldl_cons, List.foldl_nil]
        simp only [List.set_cons_succ, List.set_cons_zero]
        have HBn := Aside0.mk (below_step HB.out hb1); clear HB; have HB := HBn; clear HBn
        have HAn := Aside0.mk (below_step HA.out hb1); clear HA; have HA := HAn; clear HAn
        have HDn := Aside0.mk (below_step HD.out hb1); clear HD; have HD := HDn; clear HDn
        have HP1n := Aside0.mk (below_step HP1.out hb1); clear HP1; have HP1 := HP1n; clear HP1n
        clear hb0 hb1  hS HE C
        go_upto_block 4 with (first | (go_at_call 21; (with_reducible refine (broadsidekeep_Value.calls _ _ _ _ _ VA.out).mono ?_); rintro e wv ⟨rfl, hbv⟩; have HBn := Aside0.mk (below_step (by repeat (first | (with_reducible first | exact HB.out | apply below_alloc | apply pw_below_drewN | apply below_drew1) | exact HB.out)) hbv); clear HB; have HB := HBn; clear HBn; have HAn := Aside0.mk (below_step (by repeat (first | (with_reducible first | exact HA.out | apply below_alloc | apply pw_below_drewN | apply below_drew1) | exact HA.out)) hbv); clear HA; have HA := HAn; clear HAn; have HDn := Aside0.mk (below_step (by repeat (first | (with_reducible first | exact HD.out | apply below_alloc | apply pw_below_drewN | apply below_drew1) | exact HD.out)) hbv); clear HD; have HD := HDn; clear HDn; have HP1n := Aside0.mk (below_step (by repeat (first | (with_reducible first | exact HP1.out | apply below_alloc | apply pw_below_drewN | apply below_drew1) | exact HP1.out)) hbv); clear HP1; have HP1 := HP1n; clear HP1n; clear hbv) | (go_at_call 21; (with_reducible refine (broadsidekeep_Value.calls _ _ _ _ _ VB.out).mono ?_); rintro e wv ⟨rfl, hbv⟩; have HBn := Aside0.mk (below_step (by repeat (first | (with_reducible first | exact HB.out | apply below_alloc | apply pw_below_drewN | apply below_drew1) | exact HB.out)) hbv); clear HB; have HB := HBn; clear HBn; have HAn := Aside0.mk (below_step (by repeat (first | (with_reducible first | exact HA.out | apply below_alloc | apply pw_below_drewN | apply below_drew1) | exact HA.out)) hbv); clear HA; have HA := HAn; clear HAn; have HDn := Aside0.mk (below_step (by repeat (first | (with_reducible first | exact HD.out | apply below_alloc | apply pw_below_drewN | apply below_drew1) | exact HD.out)) hbv); clear HD; have HD := HDn; clear HDn; have HP1n := Aside0.mk (below_step (by repeat (first | (with_reducible first | exact HP1.out | apply below_alloc | apply pw_below_drewN | apply below_drew1) | exact HP1.out)) hbv); clear HP1; have HP1 := HP1n; clear HP1n; clear hbv))
        have hX := heap_alloc_new wv (.cells #[.bool y0.f0, .int .i64 y0.f1, .string y0.f2, .bool y1.f0, .int .i64 y1.f1, .string y1.f2, .bool false, .int .i64 3, .string (⟨#[]⟩ : ByteArray), .bool true, .int .i64 0, .string (⟨#[120, 121]⟩ : ByteArray)] 39 (0, 0))
        have HBn := Aside0.mk (below_alloc HB.out (.cells #[.bool y0.f0, .int .i64 y0.f1, .string y0.f2, .bool y1.f0, .int .i64 y1.f1, .string y1.f2, .bool false, .int .i64 3, .string (⟨#[]⟩ : ByteArray), .bool true, .int .i64 0, .string (⟨#[120, 121]⟩ : ByteArray)] 39)); clear HB; have HB := HBn; clear HBn
        have HAn := Aside0.mk (below_alloc HA.out (.cells #[.bool y0.f0, .int .i64 y0.f1, .string y0.f2, .bool y1.f0, .int .i64 y1.f1, .string y1.f2, .bool false, .int .i64 3, .string (⟨#[]⟩ : ByteArray), .bool true, .int .i64 0, .string (⟨#[120, 121]⟩ : ByteArray)] 39)); clear HA; have HA := HAn; clear HAn
        have HDn := Aside0.mk (below_alloc HD.out (.cells #[.bool y0.f0, .int .i64 y0.f1, .string y0.f2, .bool y1.f0, .int .i64 y1.f1, .string y1.f2, .bool false, .int .i64 3, .string (⟨#[]⟩ : ByteArray), .bool true, .int .i64 0, .string (⟨#[120, 121]⟩ : ByteArray)] 39)); clear HD; have HD := HDn; clear HDn
        have HP1n := Aside0.mk (below_alloc HP1.out (.cells #[.bool y0.f0, .int .i64 y0.f1, .string y0.f2, .bool y1.f0, .int .i64 y1.f1, .string y1.f2, .bool false, .int .i64 3, .string (⟨#[]⟩ : ByteArray), .bool true, .int .i64 0, .string (⟨#[120, 121]⟩ : ByteArray)] 39)); clear HP1; have HP1 := HP1n; clear HP1n
        have hC39 := lit39 y0 y1 ⟨false, 3, (⟨#[]⟩ : ByteArray)⟩ ⟨true, 0, (⟨#[120, 121]⟩ : ByteArray)⟩ hX
        generalize wv.alloc (.cells #[.bool y0.f0, .int .i64 y0.f1, .string y0.f2, .bool y1.f0, .int .i64 y1.f1, .string y1.f2, .bool false, .int .i64 3, .string (⟨#[]⟩ : ByteArray), .bool true, .int .i64 0, .string (⟨#[120, 121]⟩ : ByteArray)] 39) = W16 at hC39 HB HA HD HP1 ⊢
        clear hX
        generalize wv.heap.size = gx at hC39 ⊢
        generalize (⟨gx, 0, none⟩ : Addr) = adx at hC39 ⊢
        generalize hxs : ([y0, y1, ⟨false, 3, (⟨#[]⟩ : ByteArray)⟩, ⟨true, 0, (⟨#[120, 121]⟩ : ByteArray)⟩] : List S39) = xs at hC39
        clear hxs VA VB
        have C39 := Aside0.mk hC39
        clear hC39
        have H16 := Aside0.mk (Below.refl W16.heap.size W16)
        have DP : Aside0 (decide (0 < l.length) = false) := ⟨decide_eq_false (by have := hl1.out; omega)⟩
        have DQ : Aside0 (decide ((0 : Int) < (l.length : Int)) = false) := ⟨decide_eq_false (by have := hl1.out; omega)⟩
        go_wp2_with fail
        go_loopw [17, 18, 20, 116, 123, 124, 125] (fun s17 s18 s20 s116 s123 s124 s125 wr => ∃ i : Int, s116 = .int .i64 i ∧ 0 ≤ i ∧ i ≤ 4 ∧ Aside0 (Below W16.heap.size W16 wr)) (fun _ _ _ s116 _ _ _ _ => (4 - Go.RowKit.intOf s116).toNat)
        case atStart => exact ⟨0, rfl, by omega, by omega, H16⟩
        case round =>
          obtain ⟨i, rfl, i0, i4, HW⟩ := hrel
          obtain ⟨wo, rfl⟩ : ∃ wo : World, wo = wr := ⟨_, rfl⟩
          by_cases h4 : i < 4
          · have d1 : decide (i < 4) = true := decide_eq_true h4
            have p1 := eq_true i0
            have q1 := eq_true h4
            obtain ⟨ad, ea, hx0, hx1, hx2⟩ := at_T39 (Kd.C_below C39.out HW.out) i i0 h4
            cases ea
            generalize rd_T39 xs i = x at hx0 hx1 hx2
            go_upto_region 19 with (fail)
            have h17 := heap_alloc_new wo (.cells #[.bool x.f0, .int .i64 x.f1, .string x.f2] 39 (0, 0))
            have HWn := Aside0.mk (below_alloc HW.out (.cells #[.bool x.f0, .int .i64 x.f1, .string x.f2] 39)); clear HW; have HW := HWn; clear HWn
            generalize wo.alloc (.cells #[.bool x.f0, .int .i64 x.f1, .string x.f2] 39) = W18 at h17 HW ⊢
            generalize wo.heap.size = g17 at h17 ⊢
            have K17 := Aside0.mk h17
            have H18 := Aside0.mk (Below.refl W18.heap.size W18)
            clear hx0 hx1 hx2 h17 p1 q1 d1
            have dp := DP.out
            have dq := DQ.out
            go_upto_block 6 with (fail)
            clear dp dq
            have HA18 := Aside0.mk (below_step HA.out HW.out)
            go_wp2_with fail
            go_loopw [18, 20, 125] (fun s18 s20 s125 wr => ∃ (j : Nat) (bb : Bool), s125 = .int .i64 (j : Int) ∧ j ≤ l.length ∧ s18 = .bool bb ∧ Aside0 (bb = (false && (l.take j).all (fun c => H1 c (s40 x)))) ∧ Aside0 (Below W18.heap.size W18 wr)) (fun _ _ s125 _ => l.length - (Go.RowKit.intOf s125).toNat)
            case atStart => exact ⟨0, false, rfl, Nat.zero_le _, rfl, ⟨by simp⟩, H18⟩
            case round =>
              obtain ⟨j, bb, rfl, hj, rfl, HBB, HV⟩ := hrel
              by_cases hjl : j < l.length
              · have dj : decide (j < l.length) = true := decide_eq_true hjl
                have dj2 : decide ((j : Int) < (l.length : Int)) = true := decide_eq_true (by omega)
                have qj := eq_true hjl
                obtain ⟨ad2, ea2, z0, z1, z2, z3, z4⟩ := at_T23 (Kd.C_below CLl.out (below_step HA18.out HV.out)) (j : Int) (by omega) (by omega)
                have er : rd_T23 l (j : Int) = l.getD j z23 := by unfold rd_T23; rw [Int.toNat_natCast]
                rw [er, Int.toNat_natCast] at z0 z1 z2 z3 z4
                have HAT := Aside0.mk (all_take l (s40 x) j hjl)
                cases ea2
                generalize l.getD j z23 = cq_ at z0 z1 z2 z3 z4 HAT
                clear er
                obtain ⟨wo2, rfl⟩ : ∃ wo : World, wo = wr := ⟨_, rfl⟩
                go_upto_region 23 with (fail)
                have h20 := heap_alloc_new wo2 (.cells #[.string cq_.f0, .int .i64 cq_.f1, .int .i64 cq_.f2, .int .i64 cq_.f3, .string cq_.f4] 23 (0, 0))
                have HVn := Aside0.mk (below_alloc HV.out (.cells #[.string cq_.f0, .int .i64 cq_.f1, .int .i64 cq_.f2, .int .i64 cq_.f3, .string cq_.f4] 23)); clear HV; have HV := HVn; clear HVn
                generalize wo2.alloc (.cells #[.string cq_.f0, .int .i64 cq_.f1, .int .i64 cq_.f2, .int .i64 cq_.f3, .string cq_.f4] 23) = W22 at h20 HV ⊢
                generalize wo2.heap.size = g20 at h20 ⊢
                clear z0 z1 z2 z3 z4
                have k17 := (HV.out.block _ (blk_lt K17.out)).trans K17.out
                have s0 := (blk_cell h20 0).trans rfl
                have s1 := (blk_cell h20 1).trans rfl
                have s2 := (blk_cell h20 2).trans rfl
                have s3 := (blk_cell h20 3).trans rfl
                have s4 := (blk_cell h20 4).trans rfl
                have t0 := (blk_cell k17 0).trans rfl
                have t1 := (blk_cell k17 1).trans rfl
                have t2 := (blk_cell k17 2).trans rfl
                clear h20 k17 dj dj2
                cases bb
                · go_wp2_with fail
                  go_roundw
                  case rel => exact ⟨j + 1, false, by go_num, by omega, rfl, ⟨by rw [HAT.out, ← Bool.and_assoc, ← HBB.out]; rfl⟩, HV⟩
                  case measure => simp [Go.RowKit.intOf]; omega
                · go_wp2_with (go_at_call 15; (with_reducible refine (pred_Holds.calls cq_.f0 cq_.f1 cq_.f2 cq_.f3 cq_.f4 x.f0 x.f1 x.f2 (H1 cq_ (s40 x)) _ (holds_f cq_ (s40 x))).mono ?_); rintro e wh ⟨rfl, hbh⟩; have HVn := Aside0.mk (below_step (by repeat (first | (with_reducible first | exact HV.out | apply below_alloc | apply pw_below_drewN | apply below_drew1) | exact HV.out)) hbh); clear HV; have HV := HVn; clear HVn; clear hbh)
                  go_roundw
                  case rel => exact ⟨j + 1, H1 cq_ (s40 x), by go_num, by omega, rfl, ⟨by rw [HAT.out, ← Bool.and_assoc, ← HBB.out]; rfl⟩, HV⟩
                  case measure => simp [Go.RowKit.intOf]; omega
              · have dj : decide (j < l.length) = false := decide_eq_false hjl
                have dj2 : decide ((j : Int) < (l.length : Int)) = false := decide_eq_false (by omega)
                obtain rfl : j = l.length := by omega
                rw [List.take_length] at HBB
                obtain ⟨W25, rfl⟩ : ∃ wo : World, wo = wr := ⟨_, rfl⟩
                have LDX : Aside0 (∀ w', Below W25.heap.size W25 w' → (Instr.loadAt 39 (.pointer (some ⟨g17, 0, none⟩))).run Tryz.prog w' = .ok (.agg #[.bool x.f0, .int .i64 x.f1, .string x.f2]) w') := ⟨fun w' hs => by
                  have k := ((below_step HV.out hs).block _ (blk_lt K17.out)).trans K17.out
                  have s0 := (blk_cell k 0).trans rfl
                  have s1 := (blk_cell k 1).trans rfl
                  have s2 := (blk_cell k 2).trans rfl
                  go_simp⟩
                go_upto_region 25 with (fail)
                clear dj dj2
                refine Rg.start mts25 (fun w' => Below W25.heap.size W25 w') 155 17 11417894429361747288219641131696458558399840256 [(7, .slice Al l.length cl), (12, .slice Ap P.length cp), (17, .pointer (some ⟨g17, 0, none⟩)), (18, .bool bb)] mts25t (by kernel_rfl) (by kernel_rfl) mts25T (by decide) (fun c a a' w e h => ⟨e ▸ h.1, h.2⟩) (by kernel_rfl) ⟨rfl, rfl, rfl, rfl, trivial⟩ (below_drew1 (Below.refl _ _)) (fun Q' C HE hS => ?_)
                have hb0 : Below W25.heap.size W25 W25.drew := below_drew1 (Below.refl _ _)
                generalize W25.drew = V0 at hb0 hS ⊢
                refine Rg.move C 0 136 1 (.slice Al l.length cl) (by kernel_rfl) (by kernel_rfl) ?_
                refine Rg.gen C hS 1 137 3 (.int .i64 (l.length : Int)) (Op.call { callee := Callee.builtin Builtin.len, args := #[Operand.tmp 136], argTypes := #[25] }) [(Operand.tmp 136, .slice Al l.length cl)] (by kernel_rfl) (by kernel_rfl) (by kernel_rfl) (fun o ho ρ h w hS => by have h1 := h _ (.head _); simp only at h1; clear h; unfold execOp; simp only [ho, h1]; go_simp) ?_
                refine Rg.gen C hS 2 138 7 (.bool false) (Op.binOp BinOp.gtr 3 (Operand.tmp 137) (Operand.const (Value.int IntKind.i64 0)) 3) [(Operand.tmp 137, .int .i64 (l.length : Int)), (Operand.const (Value.int IntKind.i64 0), Value.int IntKind.i64 0)] (by kernel_rfl) (by kernel_rfl) (by kernel_rfl) (fun o ho ρ h w hS => by have h1 := h _ (.head _); have h2 := h _ (.tail _ (.head _)); simp only at h1 h2; clear h; unfold execOp; simp only [ho, h1, h2]; have d_ := DP.out; have d2_ := DQ.out; go_simp) ?_
                refine Rg.move C 3 139 15 (.bool false) (by kernel_rfl) (by kernel_rfl) ?_
                refine Rg.off C 4 140 31 (by kernel_rfl) ?_
                refine Rg.off C 5 141 63 (by kernel_rfl) ?_
                refine Rg.off C 6 142 127 (by kernel_rfl) ?_
                refine Rg.off C 7 143 255 (by kernel_rfl) ?_
                refine Rg.off C 8 144 511 (by kernel_rfl) ?_
                refine Rg.off C 9 145 1023 (by kernel_rfl) ?_
                refine Rg.off C 10 146 2047 (by kernel_rfl) ?_
                refine Rg.off C 11 147 4095 (by kernel_rfl) ?_
                refine Rg.off C 12 148 8191 (by kernel_rfl) ?_
                refine Rg.off C 13 149 16383 (by kernel_rfl) ?_
                refine Rg.off C 14 150 32767 (by kernel_rfl) ?_
                refine Rg.off C 15 151 65535 (by kernel_rfl) ?_
                refine Rg.pick C 16 152 131071 (Value.bool false) (by kernel_rfl) (by kernel_rfl) ?_
                refine Rg.done_set C [(136, none), (137, none), (138, none), (139, none), (140, none), (141, none), (142, none), (143, none), (144, none), (145, none), (146, none), (147, none), (148, none), (149, none), (150, none), (151, none), (152, some (Value.bool false))] (by kernel_rfl) (by kernel_rfl) (by kernel_rfl) (by kernel_rfl) (by kernel_rfl) (fun u => HE.out _ _ ?_)
                simp only [Rg.sets, List.map_cons, List.map_nil, Option.getD_some, Option.getD_none, List.foldl_cons, List.foldl_nil]
                simp only [List.set_cons_succ, List.set_cons_zero]
                have HWn := Aside0.mk (below_step HW.out (below_step HV.out hb0))
                clear LDX hS HE C 
                go_wp2_with fail
                go_roundw
                case rel => exact ⟨i + 1, rfl, by omega, by omega, HWn⟩
                case measure => simp [Go.RowKit.intOf]; omega
          · have d1 : decide (i < 4) = false := decide_eq_false h4
            go_wp2_with (go_at_call 3; (with_reducible refine (PredRuns.calls _ ?t0 ?t1).mono ?_); (case t0 => exact Val.tb HTAB (below_step HB.out HW.out)); (case t1 => exact ⟨Er.Typ.below (below_step HB.out HW.out) HTYP.out⟩); rintro e wq ⟨rfl, hbq⟩)
            go_ret
            exact ⟨by first | rfl | simp, below_step (below_step HB.out HW.out) hbq⟩
      · have hmm : tuple_Name.f 10 (⟨#[109]⟩ : ByteArray) = some true := by kernel_rfl
        have hl1 : Aside0 (0 < l.length) := ⟨Nat.pos_of_ne_zero (fun h => hl0 (List.eq_nil_of_length_eq_zero h))⟩
        have m1 := make_one l hl0 (⟨#[109]⟩ : ByteArray) hmm HL.out.2
        have ht0 : t ≠ [] := fun h => hl0 (by have := HP.out; rw [h] at this; exact this.symm.eq_nil)
        have m2 := make_one t ht0 (⟨#[109]⟩ : ByteArray) hmm (fun c hc => HL.out.2 c (HP.out.mem_iff.1 hc))
        rcases made_perm hl0 HP.out m1 m2 with ⟨r, e1, e2, hr⟩ | ⟨i1, i2, e1, e2, hr⟩
        · obtain ⟨P, hP⟩ : ∃ P : List S23, P = [r] := ⟨_, rfl⟩
          have M1 : Aside0 (pred_MakeE.f 30 l = some (.ok P)) := ⟨by rw [e1, hP]⟩
          have M2 : Aside0 (pred_MakeE.f 30 t = some (.ok P)) := ⟨by rw [e2, hP]⟩
          obtain ⟨bs, hbs, ebs⟩ := same_char P P (by rw [hP]; simp)
          obtain rfl : bs = true := ebs.2 rfl
          have S1 := Aside0.mk hbs
          have HPr := Aside0.mk hP
          have PL : Aside0 (P.length = 1) := ⟨by rw [hP]; rfl⟩
          have SEM : Aside0 (∀ x : S40, l.all (fun c => H1 c x) = H1 r x) := ⟨fun x => (hr x).symm⟩
          clear hl0 ht0 hP e1 e2 hr m1 m2 hmm hbs ebs
          go_upto_region 13 with (go_at_call 9; (with_reducible refine (mkE_n 30 Al l.length cl l rfl _ _ ?s1 ?s2 M1.out).mono ?_); (case s1 => exact Kd.C_below CLl.out (by repeat (first | (with_reducible first | exact HA.out | apply below_alloc | apply pw_below_drewN | apply below_drew1) | exact HA.out))); (case s2 => omega); rintro e w1 ⟨v1, x1, rfl, ⟨rfl, hR1⟩, hb1⟩; have HBn := Aside0.mk (below_step (by repeat (first | (with_reducible first | exact HB.out | apply below_alloc | apply pw_below_drewN | apply below_drew1) | exact HB.out)) hb1); clear HB; have HB := HBn; clear HBn; have HAn := Aside0.mk (below_step (by repeat (first | (with_reducible first | exact HA.out | apply below_alloc | apply pw_below_drewN | apply below_drew1) | exact HA.out)) hb1); clear HA; have HA := HAn; clear HAn; have HDn := Aside0.mk (below_step (by repeat (first | (with_reducible first | exact HD.out | apply below_alloc | apply pw_below_drewN | apply below_drew1) | exact HD.out)) hb1); clear HD; have HD := HDn; clear HDn; clear hb1; have HP1 := Aside0.mk (Below.refl w1.heap.size w1))
          go_upto_region 14 with (go_at_call 9; (with_reducible refine (mkE_n 30 At t.length ct t rfl _ _ ?s1 ?s2 M2.out).mono ?_); (case s1 => exact Kd.C_below CTt.out (by repeat (first | (with_reducible first | exact HD.out | apply below_alloc | apply pw_below_drewN | apply below_drew1) | exact HD.out))); (case s2 => omega); rintro e w2 ⟨v2, x2, rfl, ⟨rfl, hR2⟩, hb2⟩; have HBn := Aside0.mk (below_step (by repeat (first | (with_reducible first | exact HB.out | apply below_alloc | apply pw_below_drewN | apply below_drew1) | exact HB.out)) hb2); clear HB; have HB := HBn; clear HBn; have HAn := Aside0.mk (below_step (by repeat (first | (with_reducible first | exact HA.out | apply below_alloc | apply pw_below_drewN | apply below_drew1) | exact HA.out)) hb2); clear HA; have HA := HAn; clear HAn; have HDn := Aside0.mk (below_step (by repeat (first | (with_reducible first | exact HD.out | apply below_alloc | apply pw_below_drewN | apply below_drew1) | exact HD.out)) hb2); clear HD; have HD := HDn; clear HDn; have HP1n := Aside0.mk (below_step (by repeat (first | (with_reducible first | exact HP1.out | apply below_alloc | apply pw_below_drewN | apply below_drew1) | exact HP1.out)) hb2); clear HP1; have HP1 := HP1n; clear HP1n; clear hb2)
          obtain ⟨gr, cp, e1, hcp, hC1, hX⟩ := cell_R hR1 (by rw [HPr.out]; simp)
          cases e1
          have HXR := Aside0.mk hX
          clear hX
          obtain ⟨Aq, cq, rfl, hcq, hC2⟩ := Kd.R_reads hR2
          have CP := Aside0.mk hC1
          have CQ := Aside0.mk hC2
          clear hC1 hC2 hR1 hR2
          refine Rg.start mts14 (fun w' => Below w2.heap.size w2 w') 155 20 162259122086708452719043647897600 [(12, .slice (some ⟨gr, 0, none⟩) P.length cp), (13, .nilIface), (14, .slice Aq P.length cq), (15, .nilIface)] mts14t (by kernel_rfl) (by kernel_rfl) mts14T (by decide) (fun c a a' w e h => ⟨e ▸ h.1, h.2⟩) (by kernel_rfl) ⟨rfl, rfl, rfl, rfl, trivial⟩ (below_drew1 (Below.refl _ _)) (fun Q' C HE hS => ?_)
          have hb0 : Below w2.heap.size w2 w2.drew := below_drew1 (Below.refl _ _)
          generalize w2.drew = V0 at hb0 hS ⊢
          refine Rg.move C 0 87 1 (.nilIface) (by kernel_rfl) (by kernel_rfl) ?_
          refine Rg.gen C hS 1 88 3 (.bool true) (Op.binOp BinOp.eql 27 (Operand.tmp 87) (Operand.const Value.nilIface) 27) [(Operand.tmp 87, .nilIface), (Operand.const Value.nilIface, Value.nilIface)] (by kernel_rfl) (by kernel_rfl) (by kernel_rfl) (fun o ho ρ h w hS => by have h1 := h _ (.head _); have h2 := h _ (.tail _ (.head _)); simp only at h1 h2; clear h; unfold execOp; simp only [ho, h1, h2]; go_simp) ?_
          refine Rg.move C 2 89 7 (.nilIface) (by kernel_rfl) (by kernel_rfl) ?_
          refine Rg.gen C hS 3 90 15 (.bool true) (Op.binOp BinOp.eql 27 (Operand.tmp 89) (Operand.const Value.nilIface) 27) [(Operand.tmp 89, .nilIface), (Operand.const Value.nilIface, Value.nilIface)] (by kernel_rfl) (by kernel_rfl) (by kernel_rfl) (fun o ho ρ h w hS => by have h1 := h _ (.head _); have h2 := h _ (.tail _ (.head _)); simp only at h1 h2; clear h; unfold execOp; simp only [ho, h1, h2]; go_simp) ?_
          refine Rg.gen C hS 4 91 31 (.bool false) (Op.binOp BinOp.neq 4 (Operand.tmp 88) (Operand.tmp 90) 4) [(Operand.tmp 88, .bool true), (Operand.tmp 90, .bool true)] (by kernel_rfl) (by kernel_rfl) (by kernel_rfl) (fun o ho ρ h w hS => by have h1 := h _ (.head _); have h2 := h _ (.tail _ (.head _)); simp only at h1 h2; clear h; unfold execOp; simp only [ho, h1, h2]; go_simp) ?_
          refine Rg.move C 5 92 63 (.bool false) (by kernel_rfl) (by kernel_rfl) ?_
          refine Rg.move C 6 93 127 (.slice (some ⟨gr, 0, none⟩) P.length cp) (by kernel_rfl) (by kernel_rfl) ?_
          refine Rg.move C 7 94 255 (.slice Aq P.length cq) (by kernel_rfl) (by kernel_rfl) ?_
          refine Rg.call C 8 95 511 #[.slice (some ⟨gr, 0, none⟩) P.length cp, .slice Aq P.length cq] (by kernel_rfl) Tryz.func19 (by kernel_rfl) rfl (by kernel_rfl) ?_
          refine (same_n' 30 (some ⟨gr, 0, none⟩) P.length cp P rfl Aq P.length cq P rfl true _ (Kd.C_below CP.out (below_step HP1.out hb0)) hcp (Kd.C_below CQ.out hb0) hcq S1.out).mono ?_
          rintro e V1 ⟨rfl, hbc⟩
          have hb1 : Below w2.heap.size w2 V1 := below_step hb0 hbc
          refine ⟨_, rfl, hb1, ?_⟩
          have hS := hb1
          refine Rg.gen C hS 9 96 1023 (Value.bool false) (Op.unOp UnOp.not 4 (Operand.tmp 95)) [(Operand.tmp 95, .bool true)] (by kernel_rfl) (by kernel_rfl) (by kernel_rfl) (fun o ho ρ h w hS => by have h1 := h _ (.head _); simp only at h1; clear h; unfold execOp; simp only [ho, h1]; rfl) ?_
          refine Rg.pick C 10 97 2047 (Value.bool false) (by kernel_rfl) (by kernel_rfl) ?_
          refine Rg.move C 11 98 4095 (Value.bool false) (by kernel_rfl) (by kernel_rfl) ?_
          refine Rg.move C 12 99 8191 (.nilIface) (by kernel_rfl) (by kernel_rfl) ?_
          refine Rg.gen C hS 13 100 16383 (.bool false) (Op.binOp BinOp.neq 27 (Operand.tmp 99) (Operand.const Value.nilIface) 27) [(Operand.tmp 99, .nilIface), (Operand.const Value.nilIface, Value.nilIface)] (by kernel_rfl) (by kernel_rfl) (by kernel_rfl) (fun o ho ρ h w hS => by have h1 := h _ (.head _); have h2 := h _ (.tail _ (.head _)); simp only at h1 h2; clear h; unfold execOp; simp only [ho, h1, h2]; go_simp) ?_
          refine Rg.move C 14 101 32767 (.bool false) (by kernel_rfl) (by kernel_rfl) ?_
          refine Rg.off C 15 102 65535 (by kernel_rfl) ?_
          refine Rg.off C 16 103 131071 (by kernel_rfl) ?_
          refine Rg.off C 17 104 262143 (by kernel_rfl) ?_
          refine Rg.pick C 18 105 524287 (Value.bool false) (by kernel_rfl) (by kernel_rfl) ?_
          refine Rg.pick C 19 106 1048575 (Value.bool false) (by kernel_rfl) (by kernel_rfl) ?_
          refine Rg.done_set C [(87, none), (88, none), (89, none), (90, none), (91, none), (92, none), (93, none), (94, none), (95, none), (96, none), (97, none), (98, none), (99, none), (100, none), (101, none), (102, none), (103, none), (104, none), (105, none), (106, some (Value.bool false))] (by kernel_rfl) (by kernel_rfl) (by kernel_rfl) (by kernel_rfl) (by kernel_rfl) (fun u => HE.out _ _ ?_)
          simp only [Rg.sets, List.map_cons, List.map_nil, Option.getD_some, Option.getD_none, List.foldl_cons, List.foldl_nil]
          simp only [List.set_cons_succ, List.set_cons_zero]
          have HBn := Aside0.mk (below_step HB.out hb1); clear HB; have HB := HBn; clear HBn
          have HAn := Aside0.mk (below_step HA.out hb1); clear HA; have HA := HAn; clear HAn
          have HDn := Aside0.mk (below_step HD.out hb1); clear HD; have HD := HDn; clear HDn
          have HP1n := Aside0.mk (below_step HP1.out hb1); clear HP1; have HP1 := HP1n; clear HP1n
          clear hb0 hb1  hS HE C
          go_upto_block 4 with (first | (go_at_call 21; (with_reducible refine (broadsidekeep_Value.calls _ _ _ _ _ VA.out).mono ?_); rintro e wv ⟨rfl, hbv⟩; have HBn := Aside0.mk (below_step (by repeat (first | (with_reducible first | exact HB.out | apply below_alloc | apply pw_below_drewN | apply below_drew1) | exact HB.out)) hbv); clear HB; have HB := HBn; clear HBn; have HAn := Aside0.mk (below_step (by repeat (first | (with_reducible first | exact HA.out | apply below_alloc | apply pw_below_drewN | apply below_drew1) | exact HA.out)) hbv); clear HA; have HA := HAn; clear HAn; have HDn := Aside0.mk (below_step (by repeat (first | (with_reducible first | exact HD.out | apply below_alloc | apply pw_below_drewN | apply below_drew1) | exact HD.out)) hbv); clear HD; have HD := HDn; clear HDn; have HP1n := Aside0.mk (below_step (by repeat (first | (with_reducible first | exact HP1.out | apply below_alloc | apply pw_below_drewN | apply below_drew1) | exact HP1.out)) hbv); clear HP1; have HP1 := HP1n; clear HP1n; clear hbv) | (go_at_call 21; (with_reducible refine (broadsidekeep_Value.calls _ _ _ _ _ VB.out).mono ?_); rintro e wv ⟨rfl, hbv⟩; have HBn := Aside0.mk (below_step (by repeat (first | (with_reducible first | exact HB.out | apply below_alloc | apply pw_below_drewN | apply below_drew1) | exact HB.out)) hbv); clear HB; have HB := HBn; clear HBn; have HAn := Aside0.mk (below_step (by repeat (first | (with_reducible first | exact HA.out | apply below_alloc | apply pw_below_drewN | apply below_drew1) | exact HA.out)) hbv); clear HA; have HA := HAn; clear HAn; have HDn := Aside0.mk (below_step (by repeat (first | (with_reducible first | exact HD.out | apply below_alloc | apply pw_below_drewN | apply below_drew1) | exact HD.out)) hbv); clear HD; have HD := HDn; clear HDn; have HP1n := Aside0.mk (below_step (by repeat (first | (with_reducible first | exact HP1.out | apply below_alloc | apply pw_below_drewN | apply below_drew1) | exact HP1.out)) hbv); clear HP1; have HP1 := HP1n; clear HP1n; clear hbv))
          have hX := heap_alloc_new wv (.cells #[.bool y0.f0, .int .i64 y0.f1, .string y0.f2, .bool y1.f0, .int .i64 y1.f1, .string y1.f2, .bool false, .int .i64 3, .string (⟨#[]⟩ : ByteArray), .bool true, .int .i64 0, .string (⟨#[120, 121]⟩ : ByteArray)] 39 (0, 0))
          have HBn := Aside0.mk (below_alloc HB.out (.cells #[.bool y0.f0, .int .i64 y0.f1, .string y0.f2, .bool y1.f0, .int .i64 y1.f1, .string y1.f2, .bool false, .int .i64 3, .string (⟨#[]⟩ : ByteArray), .bool true, .int .i64 0, .string (⟨#[120, 121]⟩ : ByteArray)] 39)); clear HB; have HB := HBn; clear HBn
          have HAn := Aside0.mk (below_alloc HA.out (.cells #[.bool y0.f0, .int .i64 y0.f1, .string y0.f2, .bool y1.f0, .int .i64 y1.f1, .string y1.f2, .bool false, .int .i64 3, .string (⟨#[]⟩ : ByteArray), .bool true, .int .i64 0, .string (⟨#[120, 121]⟩ : ByteArray)] 39)); clear HA; have HA := HAn; clear HAn
          have HDn := Aside0.mk (below_alloc HD.out (.cells #[.bool y0.f0, .int .i64 y0.f1, .string y0.f2, .bool y1.f0, .int .i64 y1.f1, .string y1.f2, .bool false, .int .i64 3, .string (⟨#[]⟩ : ByteArray), .bool true, .int .i64 0, .string (⟨#[120, 121]⟩ : ByteArray)] 39)); clear HD; have HD := HDn; clear HDn
          have HP1n := Aside0.mk (below_alloc HP1.out (.cells #[.bool y0.f0, .int .i64 y0.f1, .string y0.f2, .bool y1.f0, .int .i64 y1.f1, .string y1.f2, .bool false, .int .i64 3, .string (⟨#[]⟩ : ByteArray), .bool true, .int .i64 0, .string (⟨#[120, 121]⟩ : ByteArray)] 39)); clear HP1; have HP1 := HP1n; clear HP1n
          have hC39 := lit39 y0 y1 ⟨false, 3, (⟨#[]⟩ : ByteArray)⟩ ⟨true, 0, (⟨#[120, 121]⟩ : ByteArray)⟩ hX
          generalize wv.alloc (.cells #[.bool y0.f0, .int .i64 y0.f1, .string y0.f2, .bool y1.f0, .int .i64 y1.f1, .string y1.f2, .bool false, .int .i64 3, .string (⟨#[]⟩ : ByteArray), .bool true, .int .i64 0, .string (⟨#[120, 121]⟩ : ByteArray)] 39) = W16 at hC39 HB HA HD HP1 ⊢
          clear hX
          generalize wv.heap.size = gx at hC39 ⊢
          generalize (⟨gx, 0, none⟩ : Addr) = adx at hC39 ⊢
          generalize hxs : ([y0, y1, ⟨false, 3, (⟨#[]⟩ : ByteArray)⟩, ⟨true, 0, (⟨#[120, 121]⟩ : ByteArray)⟩] : List S39) = xs at hC39
          clear hxs VA VB
          have C39 := Aside0.mk hC39
          clear hC39
          have H16 := Aside0.mk (Below.refl W16.heap.size W16)
          have DP : Aside0 (decide (0 < l.length) = true) := ⟨decide_eq_true (by have := hl1.out; omega)⟩
          have DQ : Aside0 (decide ((0 : Int) < (l.length : Int)) = true) := ⟨decide_eq_true (by have := hl1.out; omega)⟩
          go_wp2_with fail
          go_loopw [17, 18, 20, 116, 123, 124, 125] (fun s17 s18 s20 s116 s123 s124 s125 wr => ∃ i : Int, s116 = .int .i64 i ∧ 0 ≤ i ∧ i ≤ 4 ∧ Aside0 (Below W16.heap.size W16 wr)) (fun _ _ _ s116 _ _ _ _ => (4 - Go.RowKit.intOf s116).toNat)
          case atStart => exact ⟨0, rfl, by omega, by omega, H16⟩
          case round =>
            obtain ⟨i, rfl, i0, i4, HW⟩ := hrel
            obtain ⟨wo, rfl⟩ : ∃ wo : World, wo = wr := ⟨_, rfl⟩
            by_cases h4 : i < 4
            · have d1 : decide (i < 4) = true := decide_eq_true h4
              have p1 := eq_true i0
              have q1 := eq_true h4
              obtain ⟨ad, ea, hx0, hx1, hx2⟩ := at_T39 (Kd.C_below C39.out HW.out) i i0 h4
              cases ea
              generalize rd_T39 xs i = x at hx0 hx1 hx2
              go_upto_region 19 with (fail)
              have h17 := heap_alloc_new wo (.cells #[.bool x.f0, .int .i64 x.f1, .string x.f2] 39 (0, 0))
              have HWn := Aside0.mk (below_alloc HW.out (.cells #[.bool x.f0, .int .i64 x.f1, .string x.f2] 39)); clear HW; have HW := HWn; clear HWn
              generalize wo.alloc (.cells #[.bool x.f0, .int .i64 x.f1, .string x.f2] 39) = W18 at h17 HW ⊢
              generalize wo.heap.size = g17 at h17 ⊢
              have K17 := Aside0.mk h17
              have H18 := Aside0.mk (Below.refl W18.heap.size W18)
              clear hx0 hx1 hx2 h17 p1 q1 d1
              have dp := DP.out
              have dq := DQ.out
              go_upto_block 6 with (fail)
              clear dp dq
              have HA18 := Aside0.mk (below_step HA.out HW.out)
              go_wp2_with fail
              go_loopw [18, 20, 125] (fun s18 s20 s125 wr => ∃ (j : Nat) (bb : Bool), s125 = .int .i64 (j : Int) ∧ j ≤ l.length ∧ s18 = .bool bb ∧ Aside0 (bb = (true && (l.take j).all (fun c => H1 c (s40 x)))) ∧ Aside0 (Below W18.heap.size W18 wr)) (fun _ _ s125 _ => l.length - (Go.RowKit.intOf s125).toNat)
              case atStart => exact ⟨0, true, rfl, Nat.zero_le _, rfl, ⟨by simp⟩, H18⟩
              case round =>
                obtain ⟨j, bb, rfl, hj, rfl, HBB, HV⟩ := hrel
                by_cases hjl : j < l.length
                · have dj : decide (j < l.length) = true := decide_eq_true hjl
                  have dj2 : decide ((j : Int) < (l.length : Int)) = true := decide_eq_true (by omega)
                  have qj := eq_true hjl
                  obtain ⟨ad2, ea2, z0, z1, z2, z3, z4⟩ := at_T23 (Kd.C_below CLl.out (below_step HA18.out HV.out)) (j : Int) (by omega) (by omega)
                  have er : rd_T23 l (j : Int) = l.getD j z23 := by unfold rd_T23; rw [Int.toNat_natCast]
                  rw [er, Int.toNat_natCast] at z0 z1 z2 z3 z4
                  have HAT := Aside0.mk (all_take l (s40 x) j hjl)
                  cases ea2
                  generalize l.getD j z23 = cq_ at z0 z1 z2 z3 z4 HAT
                  clear er
                  obtain ⟨wo2, rfl⟩ : ∃ wo : World, wo = wr := ⟨_, rfl⟩
                  go_upto_region 23 with (fail)
                  have h20 := heap_alloc_new wo2 (.cells #[.string cq_.f0, .int .i64 cq_.f1, .int .i64 cq_.f2, .int .i64 cq_.f3, .string cq_.f4] 23 (0, 0))
                  have HVn := Aside0.mk (below_alloc HV.out (.cells #[.string cq_.f0, .int .i64 cq_.f1, .int .i64 cq_.f2, .int .i64 cq_.f3, .string cq_.f4] 23)); clear HV; have HV := HVn; clear HVn
                  generalize wo2.alloc (.cells #[.string cq_.f0, .int .i64 cq_.f1, .int .i64 cq_.f2, .int .i64 cq_.f3, .string cq_.f4] 23) = W22 at h20 HV ⊢
                  generalize wo2.heap.size = g20 at h20 ⊢
                  clear z0 z1 z2 z3 z4
                  have k17 := (HV.out.block _ (blk_lt K17.out)).trans K17.out
                  have s0 := (blk_cell h20 0).trans rfl
                  have s1 := (blk_cell h20 1).trans rfl
                  have s2 := (blk_cell h20 2).trans rfl
                  have s3 := (blk_cell h20 3).trans rfl
                  have s4 := (blk_cell h20 4).trans rfl
                  have t0 := (blk_cell k17 0).trans rfl
                  have t1 := (blk_cell k17 1).trans rfl
                  have t2 := (blk_cell k17 2).trans rfl
                  clear h20 k17 dj dj2
                  cases bb
                  · go_wp2_with fail
                    go_roundw
                    case rel => exact ⟨j + 1, false, by go_num, by omega, rfl, ⟨by rw [HAT.out, ← Bool.and_assoc, ← HBB.out]; rfl⟩, HV⟩
                    case measure => simp [Go.RowKit.intOf]; omega
                  · go_wp2_with (go_at_call 15; (with_reducible refine (pred_Holds.calls cq_.f0 cq_.f1 cq_.f2 cq_.f3 cq_.f4 x.f0 x.f1 x.f2 (H1 cq_ (s40 x)) _ (holds_f cq_ (s40 x))).mono ?_); rintro e wh ⟨rfl, hbh⟩; have HVn := Aside0.mk (below_step (by repeat (first | (with_reducible first | exact HV.out | apply below_alloc | apply pw_below_drewN | apply below_drew1) | exact HV.out)) hbh); clear HV; have HV := HVn; clear HVn; clear hbh)
                    go_roundw
                    case rel => exact ⟨j + 1, H1 cq_ (s40 x), by go_num, by omega, rfl, ⟨by rw [HAT.out, ← Bool.and_assoc, ← HBB.out]; rfl⟩, HV⟩
                    case measure => simp [Go.RowKit.intOf]; omega
                · have dj : decide (j < l.length) = false := decide_eq_false hjl
                  have dj2 : decide ((j : Int) < (l.length : Int)) = false := decide_eq_false (by omega)
                  obtain rfl : j = l.length := by omega
                  rw [List.take_length] at HBB
                  obtain ⟨W25, rfl⟩ : ∃ wo : World, wo = wr := ⟨_, rfl⟩
                  have hbb : bb = H1 r (s40 x) := by rw [HBB.out, SEM.out (s40 x), Bool.true_and]
                  subst hbb
                  have LDX : Aside0 (∀ w', Below W25.heap.size W25 w' → (Instr.loadAt 39 (.pointer (some ⟨g17, 0, none⟩))).run Tryz.prog w' = .ok (.agg #[.bool x.f0, .int .i64 x.f1, .string x.f2]) w') := ⟨fun w' hs => by
                    have k := ((below_step HV.out hs).block _ (blk_lt K17.out)).trans K17.out
                    have s0 := (blk_cell k 0).trans rfl
                    have s1 := (blk_cell k 1).trans rfl
                    have s2 := (blk_cell k 2).trans rfl
                    go_simp⟩
                  have LDR : Aside0 (∀ w', Below W25.heap.size W25 w' → (Instr.loadAt 23 (.pointer (some ⟨gr, 0, none⟩))).run Tryz.prog w' = .ok (.agg #[.string r.f0, .int .i64 r.f1, .int .i64 r.f2, .int .i64 r.f3, .string r.f4]) w') := ⟨fun w' hs => by
                    obtain ⟨s0, s1, s2, s3, s4⟩ := HXR.out 0 (by rw [HPr.out]; simp) w' (below_step (below_step HP1.out (below_step HW.out HV.out)) hs)
                    have er : P.getD 0 z23 = r := by rw [HPr.out]; rfl
                    rw [er] at s0 s1 s2 s3 s4
                    simp only [Nat.zero_mul, Nat.zero_add] at s0 s1 s2 s3 s4
                    go_simp⟩
                  go_upto_region 25 with (fail)
                  clear dj dj2
                  refine Rg.start mts25 (fun w' => Below W25.heap.size W25 w') 155 17 11417894429361747288219641131696458558399840256 [(7, .slice Al l.length cl), (12, .slice (some ⟨gr, 0, none⟩) P.length cp), (17, .pointer (some ⟨g17, 0, none⟩)), (18, .bool (H1 r (s40 x)))] mts25t (by kernel_rfl) (by kernel_rfl) mts25T (by decide) (fun c a a' w e h => ⟨e ▸ h.1, h.2⟩) (by kernel_rfl) ⟨rfl, rfl, rfl, rfl, trivial⟩ (below_drew1 (Below.refl _ _)) (fun Q' C HE hS => ?_)
                  have hb0 : Below W25.heap.size W25 W25.drew := below_drew1 (Below.refl _ _)
                  generalize W25.drew = V0 at hb0 hS ⊢
                  refine Rg.move C 0 136 1 (.slice Al l.length cl) (by kernel_rfl) (by kernel_rfl) ?_
                  refine Rg.gen C hS 1 137 3 (.int .i64 (l.length : Int)) (Op.call { callee := Callee.builtin Builtin.len, args := #[Operand.tmp 136], argTypes := #[25] }) [(Operand.tmp 136, .slice Al l.length cl)] (by kernel_rfl) (by kernel_rfl) (by kernel_rfl) (fun o ho ρ h w hS => by have h1 := h _ (.head _); simp only at h1; clear h; unfold execOp; simp only [ho, h1]; go_simp) ?_
                  refine Rg.gen C hS 2 138 7 (.bool true) (Op.binOp BinOp.gtr 3 (Operand.tmp 137) (Operand.const (Value.int IntKind.i64 0)) 3) [(Operand.tmp 137, .int .i64 (l.length : Int)), (Operand.const (Value.int IntKind.i64 0), Value.int IntKind.i64 0)] (by kernel_rfl) (by kernel_rfl) (by kernel_rfl) (fun o ho ρ h w hS => by have h1 := h _ (.head _); have h2 := h _ (.tail _ (.head _)); simp only at h1 h2; clear h; unfold execOp; simp only [ho, h1, h2]; have d_ := DP.out; have d2_ := DQ.out; go_simp) ?_
                  refine Rg.move C 3 139 15 (.bool true) (by kernel_rfl) (by kernel_rfl) ?_
                  refine Rg.move C 4 140 31 (.bool (H1 r (s40 x))) (by kernel_rfl) (by kernel_rfl) ?_
                  refine Rg.move C 5 141 63 (.slice (some ⟨gr, 0, none⟩) P.length cp) (by kernel_rfl) (by kernel_rfl) ?_
                  refine Rg.gen C hS 6 142 127 (.int .i64 (P.length : Int)) (Op.call { callee := Callee.builtin Builtin.len, args := #[Operand.tmp 141], argTypes := #[25] }) [(Operand.tmp 141, .slice (some ⟨gr, 0, none⟩) P.length cp)] (by kernel_rfl) (by kernel_rfl) (by kernel_rfl) (fun o ho ρ h w hS => by have h1 := h _ (.head _); simp only at h1; clear h; unfold execOp; simp only [ho, h1]; go_simp) ?_
                  refine Rg.gen C hS 7 143 255 (.bool true) (Op.binOp BinOp.eql 3 (Operand.tmp 142) (Operand.const (Value.int IntKind.i64 1)) 3) [(Operand.tmp 142, .int .i64 (P.length : Int)), (Operand.const (Value.int IntKind.i64 1), Value.int IntKind.i64 1)] (by kernel_rfl) (by kernel_rfl) (by kernel_rfl) (fun o ho ρ h w hS => by have h1 := h _ (.head _); have h2 := h _ (.tail _ (.head _)); simp only at h1 h2; clear h; unfold execOp; simp only [ho, h1, h2]; have e_ := PL.out; go_simp) ?_
                  refine Rg.move C 8 144 511 (.bool true) (by kernel_rfl) (by kernel_rfl) ?_
                  refine Rg.move C 9 145 1023 (.slice (some ⟨gr, 0, none⟩) P.length cp) (by kernel_rfl) (by kernel_rfl) ?_
                  refine Rg.gen C hS 10 146 2047 (.pointer (some ⟨gr, 0, none⟩)) (Op.indexAddr 25 (Operand.tmp 145) (Operand.const (Value.int IntKind.i64 0))) [(Operand.tmp 145, .slice (some ⟨gr, 0, none⟩) P.length cp), (Operand.const (Value.int IntKind.i64 0), Value.int IntKind.i64 0)] (by kernel_rfl) (by kernel_rfl) (by kernel_rfl) (fun o ho ρ h w hS => by have h1 := h _ (.head _); have h2 := h _ (.tail _ (.head _)); simp only at h1 h2; clear h; unfold execOp; simp only [ho, h1, h2]; have e_ := PL.out; rw [e_]; go_simp) ?_
                  refine Rg.gen C hS 11 147 4095 (.agg #[.string r.f0, .int .i64 r.f1, .int .i64 r.f2, .int .i64 r.f3, .string r.f4]) (Op.load 23 (Operand.tmp 146)) [(Operand.tmp 146, .pointer (some ⟨gr, 0, none⟩))] (by kernel_rfl) (by kernel_rfl) (by kernel_rfl) (fun o ho ρ h w hS => by have h1 := h _ (.head _); simp only at h1; clear h; unfold execOp; simp only [ho, h1]; simp [LDR.out w hS]) ?_
                  refine Rg.gen C hS 12 148 8191 (.agg #[.bool x.f0, .int .i64 x.f1, .string x.f2]) (Op.load 39 (Operand.tmp 17)) [(Operand.tmp 17, .pointer (some ⟨g17, 0, none⟩))] (by kernel_rfl) (by kernel_rfl) (by kernel_rfl) (fun o ho ρ h w hS => by have h1 := h _ (.head _); simp only at h1; clear h; unfold execOp; simp only [ho, h1]; simp [LDX.out w hS]) ?_
                  refine Rg.call C 13 149 16383 #[.agg #[.string r.f0, .int .i64 r.f1, .int .i64 r.f2, .int .i64 r.f3, .string r.f4], .agg #[.bool x.f0, .int .i64 x.f1, .string x.f2]] (by kernel_rfl) Tryz.func15 (by kernel_rfl) rfl (by kernel_rfl) ?_
                  refine (pred_Holds.calls r.f0 r.f1 r.f2 r.f3 r.f4 x.f0 x.f1 x.f2 (H1 r (s40 x)) _ (holds_f r (s40 x))).mono ?_
                  rintro e V1 ⟨rfl, hbc⟩
                  have hb1 : Below W25.heap.size W25 V1 := below_step hb0 hbc
                  refine ⟨_, rfl, hb1, ?_⟩
                  have hS := hb1
                  refine Rg.pick C 14 150 32767 (.bool (H1 r (s40 x))) (by kernel_rfl) (by kernel_rfl) ?_
                  refine Rg.gen C hS 15 151 65535 (.bool false) (Op.binOp BinOp.neq 4 (Operand.tmp 140) (Operand.tmp 150) 4) [(Operand.tmp 140, .bool (H1 r (s40 x))), (Operand.tmp 150, .bool (H1 r (s40 x)))] (by kernel_rfl) (by kernel_rfl) (by kernel_rfl) (fun o ho ρ h w hS => by have h1 := h _ (.head _); have h2 := h _ (.tail _ (.head _)); simp only at h1 h2; clear h; unfold execOp; simp only [ho, h1, h2]; go_simp) ?_
                  refine Rg.pick C 16 152 131071 (.bool false) (by kernel_rfl) (by kernel_rfl) ?_
                  refine Rg.done_set C [(136, none), (137, none), (138, none), (139, none), (140, none), (141, none), (142, none), (143, none), (144, none), (145, none), (146, none), (147, none), (148, none), (149, none), (150, none), (151, none), (152, some (.bool false))] (by kernel_rfl) (by kernel_rfl) (by kernel_rfl) (by kernel_rfl) (by kernel_rfl) (fun u => HE.out _ _ ?_)
                  simp only [Rg.sets, List.map_cons, List.map_nil, Option.getD_some, Option.getD_none, List.foldl_cons, List.foldl_nil]
                  simp only [List.set_cons_succ, List.set_cons_zero]
                  have HWn := Aside0.mk (below_step HW.out (below_step HV.out hb1))
                  clear LDX hS HE C LDR
                  go_wp2_with fail
                  go_roundw
                  case rel => exact ⟨i + 1, rfl, by omega, by omega, HWn⟩
                  case measure => simp [Go.RowKit.intOf]; omega
            · have d1 : decide (i < 4) = false := decide_eq_false h4
              go_wp2_with (go_at_call 3; (with_reducible refine (PredRuns.calls _ ?t0 ?t1).mono ?_); (case t0 => exact Val.tb HTAB (below_step HB.out HW.out)); (case t1 => exact ⟨Er.Typ.below (below_step HB.out HW.out) HTYP.out⟩); rintro e wq ⟨rfl, hbq⟩)
              go_ret
              exact ⟨by first | rfl | simp, below_step (below_step HB.out HW.out) hbq⟩
        · have M1 := Aside0.mk e1
          have M2 := Aside0.mk e2
          have SEM := Aside0.mk hr
          clear hl0 ht0 e1 e2 hr m1 m2 hmm
          go_upto_region 13 with (go_at_call 9; (with_reducible refine (mkE_n 30 Al l.length cl l rfl _ _ ?s1 ?s2 M1.out).mono ?_); (case s1 => exact Kd.C_below CLl.out (by repeat (first | (with_reducible first | exact HA.out | apply below_alloc | apply pw_below_drewN | apply below_drew1) | exact HA.out))); (case s2 => omega); rintro e w1 ⟨v1, x1, rfl, ⟨rfl, g1, rfl, hok1⟩, hb1⟩; have HBn := Aside0.mk (below_step (by repeat (first | (with_reducible first | exact HB.out | apply below_alloc | apply pw_below_drewN | apply below_drew1) | exact HB.out)) hb1); clear HB; have HB := HBn; clear HBn; have HAn := Aside0.mk (below_step (by repeat (first | (with_reducible first | exact HA.out | apply below_alloc | apply pw_below_drewN | apply below_drew1) | exact HA.out)) hb1); clear HA; have HA := HAn; clear HAn; have HDn := Aside0.mk (below_step (by repeat (first | (with_reducible first | exact HD.out | apply below_alloc | apply pw_below_drewN | apply below_drew1) | exact HD.out)) hb1); clear HD; have HD := HDn; clear HDn; clear hb1; have HE1 := Aside0.mk (Below.refl w1.heap.size w1))
          go_upto_region 14 with (go_at_call 9; (with_reducible refine (mkE_n 30 At t.length ct t rfl _ _ ?s1 ?s2 M2.out).mono ?_); (case s1 => exact Kd.C_below CTt.out (by repeat (first | (with_reducible first | exact HD.out | apply below_alloc | apply pw_below_drewN | apply below_drew1) | exact HD.out))); (case s2 => omega); rintro e w2 ⟨v2, x2, rfl, ⟨rfl, g2, rfl, hok2⟩, hb2⟩; have HBn := Aside0.mk (below_step (by repeat (first | (with_reducible first | exact HB.out | apply below_alloc | apply pw_below_drewN | apply below_drew1) | exact HB.out)) hb2); clear HB; have HB := HBn; clear HBn; have HAn := Aside0.mk (below_step (by repeat (first | (with_reducible first | exact HA.out | apply below_alloc | apply pw_below_drewN | apply below_drew1) | exact HA.out)) hb2); clear HA; have HA := HAn; clear HAn; have HDn := Aside0.mk (below_step (by repeat (first | (with_reducible first | exact HD.out | apply below_alloc | apply pw_below_drewN | apply below_drew1) | exact HD.out)) hb2); clear HD; have HD := HDn; clear HDn; have HE1n := Aside0.mk (below_step (by repeat (first | (with_reducible first | exact HE1.out | apply below_alloc | apply pw_below_drewN | apply below_drew1) | exact HE1.out)) hb2); clear HE1; have HE1 := HE1n; clear HE1n; clear hb2)
          refine Rg.start mts14 (fun w' => Below w2.heap.size w2 w') 155 20 162259122086708452719043647897600 [(12, .slice none 0 0), (13, .iface 73 (.pointer (some ⟨g1, 0, none⟩))), (14, .slice none 0 0), (15, .iface 73 (.pointer (some ⟨g2, 0, none⟩)))] mts14t (by kernel_rfl) (by kernel_rfl) mts14T (by decide) (fun c a a' w e h => ⟨e ▸ h.1, h.2⟩) (by kernel_rfl) ⟨rfl, rfl, rfl, rfl, trivial⟩ (below_drew1 (Below.refl _ _)) (fun Q' C HE hS => ?_)
          have hb0 : Below w2.heap.size w2 w2.drew := below_drew1 (Below.refl _ _)
          generalize w2.drew = V0 at hb0 hS ⊢
          refine Rg.move C 0 87 1 (.iface 73 (.pointer (some ⟨g1, 0, none⟩))) (by kernel_rfl) (by kernel_rfl) ?_
          refine Rg.gen C hS 1 88 3 (.bool false) (Op.binOp BinOp.eql 27 (Operand.tmp 87) (Operand.const Value.nilIface) 27) [(Operand.tmp 87, .iface 73 (.pointer (some ⟨g1, 0, none⟩))), (Operand.const Value.nilIface, Value.nilIface)] (by kernel_rfl) (by kernel_rfl) (by kernel_rfl) (fun o ho ρ h w hS => by have h1 := h _ (.head _); have h2 := h _ (.tail _ (.head _)); simp only at h1 h2; clear h; unfold execOp; simp only [ho, h1, h2]; go_simp) ?_
          refine Rg.move C 2 89 7 (.iface 73 (.pointer (some ⟨g2, 0, none⟩))) (by kernel_rfl) (by kernel_rfl) ?_
          refine Rg.gen C hS 3 90 15 (.bool false) (Op.binOp BinOp.eql 27 (Operand.tmp 89) (Operand.const Value.nilIface) 27) [(Operand.tmp 89, .iface 73 (.pointer (some ⟨g2, 0, none⟩))), (Operand.const Value.nilIface, Value.nilIface)] (by kernel_rfl) (by kernel_rfl) (by kernel_rfl) (fun o ho ρ h w hS => by have h1 := h _ (.head _); have h2 := h _ (.tail _ (.head _)); simp only at h1 h2; clear h; unfold execOp; simp only [ho, h1, h2]; go_simp) ?_
          refine Rg.gen C hS 4 91 31 (.bool false) (Op.binOp BinOp.neq 4 (Operand.tmp 88) (Operand.tmp 90) 4) [(Operand.tmp 88, .bool false), (Operand.tmp 90, .bool false)] (by kernel_rfl) (by kernel_rfl) (by kernel_rfl) (fun o ho ρ h w hS => by have h1 := h _ (.head _); have h2 := h _ (.tail _ (.head _)); simp only at h1 h2; clear h; unfold execOp; simp only [ho, h1, h2]; go_simp) ?_
          refine Rg.move C 5 92 63 (.bool false) (by kernel_rfl) (by kernel_rfl) ?_
          refine Rg.move C 6 93 127 (.slice none 0 0) (by kernel_rfl) (by kernel_rfl) ?_
          refine Rg.move C 7 94 255 (.slice none 0 0) (by kernel_rfl) (by kernel_rfl) ?_
          refine Rg.call C 8 95 511 #[.slice none 0 0, .slice none 0 0] (by kernel_rfl) Tryz.func19 (by kernel_rfl) rfl (by kernel_rfl) ?_
          refine (same_n' 30 none 0 0 [] rfl none 0 0 [] rfl true _ (Kd.C_nil _ _) (by omega) (Kd.C_nil _ _) (by omega) rfl).mono ?_
          rintro e V1 ⟨rfl, hbc⟩
          have hb1 : Below w2.heap.size w2 V1 := below_step hb0 hbc
          refine ⟨_, rfl, hb1, ?_⟩
          have hS := hb1
          refine Rg.gen C hS 9 96 1023 (Value.bool false) (Op.unOp UnOp.not 4 (Operand.tmp 95)) [(Operand.tmp 95, .bool true)] (by kernel_rfl) (by kernel_rfl) (by kernel_rfl) (fun o ho ρ h w hS => by have h1 := h _ (.head _); simp only at h1; clear h; unfold execOp; simp only [ho, h1]; rfl) ?_
          refine Rg.pick C 10 97 2047 (Value.bool false) (by kernel_rfl) (by kernel_rfl) ?_
          refine Rg.move C 11 98 4095 (Value.bool false) (by kernel_rfl) (by kernel_rfl) ?_
          refine Rg.move C 12 99 8191 (.iface 73 (.pointer (some ⟨g1, 0, none⟩))) (by kernel_rfl) (by kernel_rfl) ?_
          refine Rg.gen C hS 13 100 16383 (.bool true) (Op.binOp BinOp.neq 27 (Operand.tmp 99) (Operand.const Value.nilIface) 27) [(Operand.tmp 99, .iface 73 (.pointer (some ⟨g1, 0, none⟩))), (Operand.const Value.nilIface, Value.nilIface)] (by kernel_rfl) (by kernel_rfl) (by kernel_rfl) (fun o ho ρ h w hS => by have h1 := h _ (.head _); have h2 := h _ (.tail _ (.head _)); simp only at h1 h2; clear h; unfold execOp; simp only [ho, h1, h2]; go_simp) ?_
          refine Rg.move C 14 101 32767 (.bool true) (by kernel_rfl) (by kernel_rfl) ?_
          refine Rg.move C 15 102 65535 (.iface 73 (.pointer (some ⟨g1, 0, none⟩))) (by kernel_rfl) (by kernel_rfl) ?_
          refine Rg.call C 16 103 131071 #[.iface 73 (.pointer (some ⟨g1, 0, none⟩))] (by kernel_rfl) Tryz.func20 (by kernel_rfl) rfl (by kernel_rfl) ?_
          refine (kind_no' _ (⟨#[112, 114, 101, 100]⟩ : ByteArray) (i1 : Int) 5 _ ⟨Er.Typ.below (below_step HB.out hb1) HTYP.out⟩ (Er.Err.okBelow (below_step HE1.out hb1) hok1)).mono ?_
          rintro e V2 ⟨rfl, hbc2⟩
          have hb2 : Below w2.heap.size w2 V2 := below_step hb1 hbc2
          refine ⟨_, rfl, hb2, ?_⟩
          have hS := hb2
          refine Rg.gen C hS 17 104 262143 (Value.bool false) (Op.binOp BinOp.neq 32 (Operand.tmp 103) (Operand.const (Value.int IntKind.i64 5)) 32) [(Operand.tmp 103, .int .i64 5), (Operand.const (Value.int IntKind.i64 5), Value.int IntKind.i64 5)] (by kernel_rfl) (by kernel_rfl) (by kernel_rfl) (fun o ho ρ h w hS => by have h1 := h _ (.head _); have h2 := h _ (.tail _ (.head _)); simp only at h1 h2; clear h; unfold execOp; simp only [ho, h1, h2]; go_simp) ?_
          refine Rg.pick C 18 105 524287 (Value.bool false) (by kernel_rfl) (by kernel_rfl) ?_
          refine Rg.pick C 19 106 1048575 (Value.bool false) (by kernel_rfl) (by kernel_rfl) ?_
          refine Rg.done_set C [(87, none), (88, none), (89, none), (90, none), (91, none), (92, none), (93, none), (94, none), (95, none), (96, none), (97, none), (98, none), (99, none), (100, none), (101, none), (102, none), (103, none), (104, none), (105, none), (106, some (Value.bool false))] (by kernel_rfl) (by kernel_rfl) (by kernel_rfl) (by kernel_rfl) (by kernel_rfl) (fun u => HE.out _ _ ?_)
          simp only [Rg.sets, List.map_cons, List.map_nil, Option.getD_some, Option.getD_none, List.foldl_cons, List.foldl_nil]
          simp only [List.set_cons_succ, List.set_cons_zero]
          have HBn := Aside0.mk (below_step HB.out hb2); clear HB; have HB := HBn; clear HBn
          have HAn := Aside0.mk (below_step HA.out hb2); clear HA; have HA := HAn; clear HAn
          have HDn := Aside0.mk (below_step HD.out hb2); clear HD; have HD := HDn; clear HDn
          clear hb0 hb1 hb2 hS HE C
          go_upto_block 4 with (first | (go_at_call 21; (with_reducible refine (broadsidekeep_Value.calls _ _ _ _ _ VA.out).mono ?_); rintro e wv ⟨rfl, hbv⟩; have HBn := Aside0.mk (below_step (by repeat (first | (with_reducible first | exact HB.out | apply below_alloc | apply pw_below_drewN | apply below_drew1) | exact HB.out)) hbv); clear HB; have HB := HBn; clear HBn; have HAn := Aside0.mk (below_step (by repeat (first | (with_reducible first | exact HA.out | apply below_alloc | apply pw_below_drewN | apply below_drew1) | exact HA.out)) hbv); clear HA; have HA := HAn; clear HAn; have HDn := Aside0.mk (below_step (by repeat (first | (with_reducible first | exact HD.out | apply below_alloc | apply pw_below_drewN | apply below_drew1) | exact HD.out)) hbv); clear HD; have HD := HDn; clear HDn; clear hbv) | (go_at_call 21; (with_reducible refine (broadsidekeep_Value.calls _ _ _ _ _ VB.out).mono ?_); rintro e wv ⟨rfl, hbv⟩; have HBn := Aside0.mk (below_step (by repeat (first | (with_reducible first | exact HB.out | apply below_alloc | apply pw_below_drewN | apply below_drew1) | exact HB.out)) hbv); clear HB; have HB := HBn; clear HBn; have HAn := Aside0.mk (below_step (by repeat (first | (with_reducible first | exact HA.out | apply below_alloc | apply pw_below_drewN | apply below_drew1) | exact HA.out)) hbv); clear HA; have HA := HAn; clear HAn; have HDn := Aside0.mk (below_step (by repeat (first | (with_reducible first | exact HD.out | apply below_alloc | apply pw_below_drewN | apply below_drew1) | exact HD.out)) hbv); clear HD; have HD := HDn; clear HDn; clear hbv))
          have hX := heap_alloc_new wv (.cells #[.bool y0.f0, .int .i64 y0.f1, .string y0.f2, .bool y1.f0, .int .i64 y1.f1, .string y1.f2, .bool false, .int .i64 3, .string (⟨#[]⟩ : ByteArray), .bool true, .int .i64 0, .string (⟨#[120, 121]⟩ : ByteArray)] 39 (0, 0))
          have HBn := Aside0.mk (below_alloc HB.out (.cells #[.bool y0.f0, .int .i64 y0.f1, .string y0.f2, .bool y1.f0, .int .i64 y1.f1, .string y1.f2, .bool false, .int .i64 3, .string (⟨#[]⟩ : ByteArray), .bool true, .int .i64 0, .string (⟨#[120, 121]⟩ : ByteArray)] 39)); clear HB; have HB := HBn; clear HBn
          have HAn := Aside0.mk (below_alloc HA.out (.cells #[.bool y0.f0, .int .i64 y0.f1, .string y0.f2, .bool y1.f0, .int .i64 y1.f1, .string y1.f2, .bool false, .int .i64 3, .string (⟨#[]⟩ : ByteArray), .bool true, .int .i64 0, .string (⟨#[120, 121]⟩ : ByteArray)] 39)); clear HA; have HA := HAn; clear HAn
          have HDn := Aside0.mk (below_alloc HD.out (.cells #[.bool y0.f0, .int .i64 y0.f1, .string y0.f2, .bool y1.f0, .int .i64 y1.f1, .string y1.f2, .bool false, .int .i64 3, .string (⟨#[]⟩ : ByteArray), .bool true, .int .i64 0, .string (⟨#[120, 121]⟩ : ByteArray)] 39)); clear HD; have HD := HDn; clear HDn
          have hC39 := lit39 y0 y1 ⟨false, 3, (⟨#[]⟩ : ByteArray)⟩ ⟨true, 0, (⟨#[120, 121]⟩ : ByteArray)⟩ hX
          generalize wv.alloc (.cells #[.bool y0.f0, .int .i64 y0.f1, .string y0.f2, .bool y1.f0, .int .i64 y1.f1, .string y1.f2, .bool false, .int .i64 3, .string (⟨#[]⟩ : ByteArray), .bool true, .int .i64 0, .string (⟨#[120, 121]⟩ : ByteArray)] 39) = W16 at hC39 HB HA HD  ⊢
          clear hX
          generalize wv.heap.size = gx at hC39 ⊢
          generalize (⟨gx, 0, none⟩ : Addr) = adx at hC39 ⊢
          generalize hxs : ([y0, y1, ⟨false, 3, (⟨#[]⟩ : ByteArray)⟩, ⟨true, 0, (⟨#[120, 121]⟩ : ByteArray)⟩] : List S39) = xs at hC39
          clear hxs VA VB
          have C39 := Aside0.mk hC39
          clear hC39
          have H16 := Aside0.mk (Below.refl W16.heap.size W16)
          have DP : Aside0 (decide (0 < l.length) = true) := ⟨decide_eq_true (by have := hl1.out; omega)⟩
          have DQ : Aside0 (decide ((0 : Int) < (l.length : Int)) = true) := ⟨decide_eq_true (by have := hl1.out; omega)⟩
          go_wp2_with fail
          go_loopw [17, 18, 20, 116, 123, 124, 125] (fun s17 s18 s20 s116 s123 s124 s125 wr => ∃ i : Int, s116 = .int .i64 i ∧ 0 ≤ i ∧ i ≤ 4 ∧ Aside0 (Below W16.heap.size W16 wr)) (fun _ _ _ s116 _ _ _ _ => (4 - Go.RowKit.intOf s116).toNat)
          case atStart => exact ⟨0, rfl, by omega, by omega, H16⟩
          case round =>
            obtain ⟨i, rfl, i0, i4, HW⟩ := hrel
            obtain ⟨wo, rfl⟩ : ∃ wo : World, wo = wr := ⟨_, rfl⟩
            by_cases h4 : i < 4
            · have d1 : decide (i < 4) = true := decide_eq_true h4
              have p1 := eq_true i0
              have q1 := eq_true h4
              obtain ⟨ad, ea, hx0, hx1, hx2⟩ := at_T39 (Kd.C_below C39.out HW.out) i i0 h4
              cases ea
              generalize rd_T39 xs i = x at hx0 hx1 hx2
              go_upto_region 19 with (fail)
              have h17 := heap_alloc_new wo (.cells #[.bool x.f0, .int .i64 x.f1, .string x.f2] 39 (0, 0))
              have HWn := Aside0.mk (below_alloc HW.out (.cells #[.bool x.f0, .int .i64 x.f1, .string x.f2] 39)); clear HW; have HW := HWn; clear HWn
              generalize wo.alloc (.cells #[.bool x.f0, .int .i64 x.f1, .string x.f2] 39) = W18 at h17 HW ⊢
              generalize wo.heap.size = g17 at h17 ⊢
              have K17 := Aside0.mk h17
              have H18 := Aside0.mk (Below.refl W18.heap.size W18)
              clear hx0 hx1 hx2 h17 p1 q1 d1
              have dp := DP.out
              have dq := DQ.out
              go_upto_block 6 with (fail)
              clear dp dq
              have HA18 := Aside0.mk (below_step HA.out HW.out)
              go_wp2_with fail
              go_loopw [18, 20, 125] (fun s18 s20 s125 wr => ∃ (j : Nat) (bb : Bool), s125 = .int .i64 (j : Int) ∧ j ≤ l.length ∧ s18 = .bool bb ∧ Aside0 (bb = (true && (l.take j).all (fun c => H1 c (s40 x)))) ∧ Aside0 (Below W18.heap.size W18 wr)) (fun _ _ s125 _ => l.length - (Go.RowKit.intOf s125).toNat)
              case atStart => exact ⟨0, true, rfl, Nat.zero_le _, rfl, ⟨by simp⟩, H18⟩
              case round =>
                obtain ⟨j, bb, rfl, hj, rfl, HBB, HV⟩ := hrel
                by_cases hjl : j < l.length
                · have dj : decide (j < l.length) = true := decide_eq_true hjl
                  have dj2 : decide ((j : Int) < (l.length : Int)) = true := decide_eq_true (by omega)
                  have qj := eq_true hjl
                  obtain ⟨ad2, ea2, z0, z1, z2, z3, z4⟩ := at_T23 (Kd.C_below CLl.out (below_step HA18.out HV.out)) (j : Int) (by omega) (by omega)
                  have er : rd_T23 l (j : Int) = l.getD j z23 := by unfold rd_T23; rw [Int.toNat_natCast]
                  rw [er, Int.toNat_natCast] at z0 z1 z2 z3 z4
                  have HAT := Aside0.mk (all_take l (s40 x) j hjl)
                  cases ea2
                  generalize l.getD j z23 = cq_ at z0 z1 z2 z3 z4 HAT
                  clear er
                  obtain ⟨wo2, rfl⟩ : ∃ wo : World, wo = wr := ⟨_, rfl⟩
                  go_upto_region 23 with (fail)
                  have h20 := heap_alloc_new wo2 (.cells #[.string cq_.f0, .int .i64 cq_.f1, .int .i64 cq_.f2, .int .i64 cq_.f3, .string cq_.f4] 23 (0, 0))
                  have HVn := Aside0.mk (below_alloc HV.out (.cells #[.string cq_.f0, .int .i64 cq_.f1, .int .i64 cq_.f2, .int .i64 cq_.f3, .string cq_.f4] 23)); clear HV; have HV := HVn; clear HVn
                  generalize wo2.alloc (.cells #[.string cq_.f0, .int .i64 cq_.f1, .int .i64 cq_.f2, .int .i64 cq_.f3, .string cq_.f4] 23) = W22 at h20 HV ⊢
                  generalize wo2.heap.size = g20 at h20 ⊢
                  clear z0 z1 z2 z3 z4
                  have k17 := (HV.out.block _ (blk_lt K17.out)).trans K17.out
                  have s0 := (blk_cell h20 0).trans rfl
                  have s1 := (blk_cell h20 1).trans rfl
                  have s2 := (blk_cell h20 2).trans rfl
                  have s3 := (blk_cell h20 3).trans rfl
                  have s4 := (blk_cell h20 4).trans rfl
                  have t0 := (blk_cell k17 0).trans rfl
                  have t1 := (blk_cell k17 1).trans rfl
                  have t2 := (blk_cell k17 2).trans rfl
                  clear h20 k17 dj dj2
                  cases bb
                  · go_wp2_with fail
                    go_roundw
                    case rel => exact ⟨j + 1, false, by go_num, by omega, rfl, ⟨by rw [HAT.out, ← Bool.and_assoc, ← HBB.out]; rfl⟩, HV⟩
                    case measure => simp [Go.RowKit.intOf]; omega
                  · go_wp2_with (go_at_call 15; (with_reducible refine (pred_Holds.calls cq_.f0 cq_.f1 cq_.f2 cq_.f3 cq_.f4 x.f0 x.f1 x.f2 (H1 cq_ (s40 x)) _ (holds_f cq_ (s40 x))).mono ?_); rintro e wh ⟨rfl, hbh⟩; have HVn := Aside0.mk (below_step (by repeat (first | (with_reducible first | exact HV.out | apply below_alloc | apply pw_below_drewN | apply below_drew1) | exact HV.out)) hbh); clear HV; have HV := HVn; clear HVn; clear hbh)
                    go_roundw
                    case rel => exact ⟨j + 1, H1 cq_ (s40 x), by go_num, by omega, rfl, ⟨by rw [HAT.out, ← Bool.and_assoc, ← HBB.out]; rfl⟩, HV⟩
                    case measure => simp [Go.RowKit.intOf]; omega
                · have dj : decide (j < l.length) = false := decide_eq_false hjl
                  have dj2 : decide ((j : Int) < (l.length : Int)) = false := decide_eq_false (by omega)
                  obtain rfl : j = l.length := by omega
                  rw [List.take_length] at HBB
                  obtain ⟨W25, rfl⟩ : ∃ wo : World, wo = wr := ⟨_, rfl⟩
                  have hbb : bb = false := by rw [HBB.out, SEM.out (s40 x), Bool.and_false]
                  subst hbb
                  have LDX : Aside0 (∀ w', Below W25.heap.size W25 w' → (Instr.loadAt 39 (.pointer (some ⟨g17, 0, none⟩))).run Tryz.prog w' = .ok (.agg #[.bool x.f0, .int .i64 x.f1, .string x.f2]) w') := ⟨fun w' hs => by
                    have k := ((below_step HV.out hs).block _ (blk_lt K17.out)).trans K17.out
                    have s0 := (blk_cell k 0).trans rfl
                    have s1 := (blk_cell k 1).trans rfl
                    have s2 := (blk_cell k 2).trans rfl
                    go_simp⟩
                  go_upto_region 25 with (fail)
                  clear dj dj2
                  refine Rg.start mts25 (fun w' => Below W25.heap.size W25 w') 155 17 11417894429361747288219641131696458558399840256 [(7, .slice Al l.length cl), (12, .slice none 0 0), (17, .pointer (some ⟨g17, 0, none⟩)), (18, .bool false)] mts25t (by kernel_rfl) (by kernel_rfl) mts25T (by decide) (fun c a a' w e h => ⟨e ▸ h.1, h.2⟩) (by kernel_rfl) ⟨rfl, rfl, rfl, rfl, trivial⟩ (below_drew1 (Below.refl _ _)) (fun Q' C HE hS => ?_)
                  have hb0 : Below W25.heap.size W25 W25.drew := below_drew1 (Below.refl _ _)
                  generalize W25.drew = V0 at hb0 hS ⊢
                  refine Rg.move C 0 136 1 (.slice Al l.length cl) (by kernel_rfl) (by kernel_rfl) ?_
                  refine Rg.gen C hS 1 137 3 (.int .i64 (l.length : Int)) (Op.call { callee := Callee.builtin Builtin.len, args := #[Operand.tmp 136], argTypes := #[25] }) [(Operand.tmp 136, .slice Al l.length cl)] (by kernel_rfl) (by kernel_rfl) (by kernel_rfl) (fun o ho ρ h w hS => by have h1 := h _ (.head _); simp only at h1; clear h; unfold execOp; simp only [ho, h1]; go_simp) ?_
                  refine Rg.gen C hS 2 138 7 (.bool true) (Op.binOp BinOp.gtr 3 (Operand.tmp 137) (Operand.const (Value.int IntKind.i64 0)) 3) [(Operand.tmp 137, .int .i64 (l.length : Int)), (Operand.const (Value.int IntKind.i64 0), Value.int IntKind.i64 0)] (by kernel_rfl) (by kernel_rfl) (by kernel_rfl) (fun o ho ρ h w hS => by have h1 := h _ (.head _); have h2 := h _ (.tail _ (.head _)); simp only at h1 h2; clear h; unfold execOp; simp only [ho, h1, h2]; have d_ := DP.out; have d2_ := DQ.out; go_simp) ?_
                  refine Rg.move C 3 139 15 (.bool true) (by kernel_rfl) (by kernel_rfl) ?_
                  refine Rg.move C 4 140 31 (.bool false) (by kernel_rfl) (by kernel_rfl) ?_
                  refine Rg.move C 5 141 63 (.slice none 0 0) (by kernel_rfl) (by kernel_rfl) ?_
                  refine Rg.gen C hS 6 142 127 (.int .i64 0) (Op.call { callee := Callee.builtin Builtin.len, args := #[Operand.tmp 141], argTypes := #[25] }) [(Operand.tmp 141, .slice none 0 0)] (by kernel_rfl) (by kernel_rfl) (by kernel_rfl) (fun o ho ρ h w hS => by have h1 := h _ (.head _); simp only at h1; clear h; unfold execOp; simp only [ho, h1]; go_simp) ?_
                  refine Rg.gen C hS 7 143 255 (.bool false) (Op.binOp BinOp.eql 3 (Operand.tmp 142) (Operand.const (Value.int IntKind.i64 1)) 3) [(Operand.tmp 142, .int .i64 0), (Operand.const (Value.int IntKind.i64 1), Value.int IntKind.i64 1)] (by kernel_rfl) (by kernel_rfl) (by kernel_rfl) (fun o ho ρ h w hS => by have h1 := h _ (.head _); have h2 := h _ (.tail _ (.head _)); simp only at h1 h2; clear h; unfold execOp; simp only [ho, h1, h2]; go_simp) ?_
                  refine Rg.move C 8 144 511 (.bool false) (by kernel_rfl) (by kernel_rfl) ?_
                  refine Rg.off C 9 145 1023 (by kernel_rfl) ?_
                  refine Rg.off C 10 146 2047 (by kernel_rfl) ?_
                  refine Rg.off C 11 147 4095 (by kernel_rfl) ?_
                  refine Rg.off C 12 148 8191 (by kernel_rfl) ?_
                  refine Rg.off C 13 149 16383 (by kernel_rfl) ?_
                  refine Rg.pick C 14 150 32767 (Value.bool false) (by kernel_rfl) (by kernel_rfl) ?_
                  refine Rg.gen C hS 15 151 65535 (.bool false) (Op.binOp BinOp.neq 4 (Operand.tmp 140) (Operand.tmp 150) 4) [(Operand.tmp 140, .bool false), (Operand.tmp 150, Value.bool false)] (by kernel_rfl) (by kernel_rfl) (by kernel_rfl) (fun o ho ρ h w hS => by have h1 := h _ (.head _); have h2 := h _ (.tail _ (.head _)); simp only at h1 h2; clear h; unfold execOp; simp only [ho, h1, h2]; go_simp) ?_
                  refine Rg.pick C 16 152 131071 (.bool false) (by kernel_rfl) (by kernel_rfl) ?_
                  refine Rg.done_set C [(136, none), (137, none), (138, none), (139, none), (140, none), (141, none), (142, none), (143, none), (144, none), (145, none), (146, none), (147, none), (148, none), (149, none), (150, none), (151, none), (152, some (.bool false))] (by kernel_rfl) (by kernel_rfl) (by kernel_rfl) (by kernel_rfl) (by kernel_rfl) (fun u => HE.out _ _ ?_)
                  simp only [Rg.sets, List.map_cons, List.map_nil, Option.getD_some, Option.getD_none, List.foldl_cons, List.foldl_nil]
                  simp only [List.set_cons_succ, List.set_cons_zero]
                  have HWn := Aside0.mk (below_step HW.out (below_step HV.out hb0))
                  clear LDX hS HE C 
                  go_wp2_with fail
                  go_roundw
                  case rel => exact ⟨i + 1, rfl, by omega, by omega, HWn⟩
                  case measure => simp [Go.RowKit.intOf]; omega
            · have d1 : decide (i < 4) = false := decide_eq_false h4
              go_wp2_with (go_at_call 3; (with_reducible refine (PredRuns.calls _ ?t0 ?t1).mono ?_); (case t0 => exact Val.tb HTAB (below_step HB.out HW.out)); (case t1 => exact ⟨Er.Typ.below (below_step HB.out HW.out) HTYP.out⟩); rintro e wq ⟨rfl, hbq⟩)
              go_ret
              exact ⟨by first | rfl | simp, below_step (below_step HB.out HW.out) hbq⟩
end Go.Proofs.YtfabnapjbgamaaaGreatDoor.MPred
