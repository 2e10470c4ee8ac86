import Derived.Test.YtfabnapjbgamaaaGreatDoorPrK
import Derived.Test.YtfabnapjbgamaaaGreatDoorPrR
import Derived.Test.YtfabnapjbgamaaaGreatDoorRg
import Derived.Test.YtfabnapjbgamaaaGreatDoorMPredx5
namespace Go.Proofs.YtfabnapjbgamaaaGreatDoor.MPred
open Go.RowKit Go.Lib Go.Proofs.YtfabnapjbgamaaaGreatDoorW.PrintWords Go.Proofs.YtfabnapjbgamaaaGreatDoorW.PrintLast Go.Proofs.YtfabnapjbgamaaaGreatDoorW.PrintMore
set_option linter.unusedVariables false
set_option linter.unusedSimpArgs false
attribute [local go_sem] max_two min_two
attribute [local go_sem high] eqA23
/-! ### PredLimits: function 7 -/
def pfc (s : ByteArray) : S23 := ⟨s, 3, 0, 0, (⟨#[]⟩ : ByteArray)⟩
def pfx (k : Nat) : List S23 := (nms.take k).map pfc
theorem pfx_succ (k : Nat) (h : k < 7) : pfx (k + 1) = pfx k ++ [pfc (rdOf ByteArray.empty nms (k : Int))] := by
  unfold pfx
  have h2 : k < nms.length := h
  rw [List.take_add_one, List.getElem?_eq_getElem h2, List.map_append]
  unfold rdOf
  rw [Int.toNat_natCast]
  simp only [List.getD_eq_getElem?_getD, List.getElem?_eq_getElem h2]
  rfl
theorem pfx_len (k : Nat) (h : k ≤ 7) : (pfx k).length = k := by
  unfold pfx
  rw [List.length_map, List.length_take]
  have : nms.length = 7 := rfl
  omega
theorem pfx_make : ∀ k, k ≤ 7 → pred_MakeE.f 30 (pfx k) = some (if k ≤ 5 then .ok (pfx k) else .error (5, 7))
  | 0, _ => by kernel_rfl
  | 1, _ => by kernel_rfl
  | 2, _ => by kernel_rfl
  | 3, _ => by kernel_rfl
  | 4, _ => by kernel_rfl
  | 5, _ => by kernel_rfl
  | 6, _ => by kernel_rfl
  | 7, _ => by kernel_rfl
  | k + 8, h => by omega
def myc (c i : Nat) : S23 := if i = c + 1 then ⟨(⟨#[121]⟩ : ByteArray), 2, 0, 0, (⟨#[110, 111]⟩ : ByteArray)⟩ else ⟨(⟨#[121]⟩ : ByteArray), 1, 0, 9 - (i : Int), (⟨#[]⟩ : ByteArray)⟩
def mny (c k : Nat) : List S23 := (List.range k).map (myc c)
theorem mny_succ (c k : Nat) : mny c (k + 1) = mny c k ++ [myc c k] := by simp [mny, List.range_succ]
theorem mny_len (c k : Nat) : (mny c k).length = k := by simp [mny]
theorem mny_make : ∀ c, c ≤ 4 → pred_MakeE.f 30 (mny c 6) = some (.error (c + 1, 5))
  | 0, _ => by kernel_rfl
  | 1, _ => by kernel_rfl
  | 2, _ => by kernel_rfl
  | 3, _ => by kernel_rfl
  | 4, _ => by kernel_rfl
  | k + 5, h => by omega
abbrev rz (a b : Int) : S23 := ⟨(⟨#[122]⟩ : ByteArray), 1, a, b, (⟨#[]⟩ : ByteArray)⟩
theorem rz_make (a b : Int) (h : a ≤ b) (h0 : -9223372036854775808 ≤ a) (h1 : b ≤ 9223372036854775807) : pred_MakeE.f 30 [rz a b, rz (-9223372036854775808) 9223372036854775807] = some (.ok [rz a b]) := by
  refine makeE_of ?_
  have hz : tuple_Name.f 30 (⟨#[122]⟩ : ByteArray) = some true := by kernel_rfl
  have hr : ∀ x y : Int, x ≤ y → pred_RightOne.f 30 (⟨#[122]⟩ : ByteArray) 1 x y (⟨#[]⟩ : ByteArray) = some true := fun x y hxy => by
    unfold pred_RightOne.f
    rw [hz]
    simp [hxy]
  unfold pred_Make.f
  rw [mk.l1, hr a b h]
  simp only [Option.bind_some, if_true]
  rw [mk.l1, hr (-9223372036854775808) 9223372036854775807 (by omega)]
  simp only [Option.bind_some, if_true]
  rw [mk.l1]
  simp only [Option.bind_some, if_true]
  have hm : mk.met [] (⟨#[122]⟩ : ByteArray) = false := by simp [mk.met]
  have hc : mk.cnt [] (⟨#[122]⟩ : ByteArray) = 0 := by simp [mk.cnt]
  rw [mk.l2, if_neg (by simp [hm]), if_neg (by simp), hc]
  show mk.l2 [rz a b] [rz (-9223372036854775808) 9223372036854775807] = _
  have m1 : mk.met [rz a b] (⟨#[122]⟩ : ByteArray) = true ∧ mk.cnt [rz a b] (⟨#[122]⟩ : ByteArray) = 0 := by
    have h1 : mk.cnt [rz a b] (⟨#[122]⟩ : ByteArray) = 0 := by simp [mk.cnt, cmpB_self]
    exact ⟨by unfold mk.met; rw [h1]; simp [cmpB_self], h1⟩
  rw [mk.l2, if_pos m1.1, m1.2]
  have hb : mk.both (rz a b) (rz (-9223372036854775808) 9223372036854775807) = some (rz a b, true) := by
    unfold mk.both pred_Both.f pred_Both.core
    rw [if_neg (by simp), if_pos rfl, if_pos rfl]
    have e1 : mx a (-9223372036854775808) = a := by unfold mx; split <;> omega
    have e2 : mn b 9223372036854775807 = b := by unfold mn; split <;> omega
    simp only [rz, e1, e2]
    rw [if_neg (by omega)]
    rfl
  show ((mk.both (rz a b) _).bind _) = _
  rw [hb]
  rfl
theorem same_one23 (w : World) (x0 x4 : ByteArray) (x1 x2 x3 : Int) : (binOp .neq 23 (.agg #[.string x0, .int .i64 x1, .int .i64 x2, .int .i64 x3, .string x4]) (.agg #[.string x0, .int .i64 x1, .int .i64 x2, .int .i64 x3, .string x4])).run Tryz.prog w = .ok (.bool false) w := by
  have h := eqA23 9998 w x0 x0 x1 x1 x2 x2 x3 x3 x4 x4
  simp at h
  simp only [binOp]
  simp [Op.equal, Op.maxDepth, h]
theorem cstr1 {w : World} {A : Option Addr} {c base : Nat} {s : ByteArray} {v : Value} (h : w.ownsRow base 9 1 v 1 [.string s]) : ∃ A c, v = .slice A 1 c ∧ 1 ≤ c ∧ Kd.C Kd.string w A 1 [s] := by
  have ho : OwnRow (fun p cs => Kd.string.K w p cs) 9 1 w base v [s] := ⟨[.string s], h, ⟨rfl, fun j p hj => by
    have hj0 : j = 0 := by
      have := (List.getElem?_eq_some_iff.1 hj).1
      simp at this
      exact this
    subst hj0
    have hp : s = p := by simpa using hj
    subst hp
    rfl⟩⟩
  obtain ⟨A, c, e, hl, hr⟩ := OwnRow.reads ho
  exact ⟨A, c, e, hl, hr⟩
theorem sames_n (k : Nat) (A0 : Option Addr) (n0 c0 : Nat) (l0 : List ByteArray) (e0 : l0.length = n0) (A1 : Option Addr) (n1 c1 : Nat) (l1 : List ByteArray) (e1 : l1.length = n1) (r : Bool) (w : World) (hr0 : Kd.C Kd.string w A0 n0 l0) (hc0 : n0 ≤ c0) (hr1 : Kd.C Kd.string w A1 n1 l1) (hc1 : n1 ≤ c1) (h : broadsidebook_Same_string.f k l0 l1 = some r) :
    Calls Tryz.prog 26 #[.slice A0 n0 c0, .slice A1 n1 c1] w fun e w' => e = .returned (.bool r) ∧ Below w.heap.size w w' := by
  subst e0
  subst e1
  exact (broadsidebook_Same_string.calls k A0 c0 l0 A1 c1 l1 r w hr0 hc0 hr1 hc1 h).mono (fun e w' hh => ⟨hh.1, by first | exact hh.2 | exact hh.2.below⟩)
theorem cstr_lit {W : World} {g : Nat} (s : ByteArray) (h : W.heap[g]? = some (.cells #[.string s] 9 (0, 0))) : Kd.C Kd.string W (some ⟨g, 0, none⟩) 1 [s] := by
  refine ⟨rfl, by omega, fun _ => ⟨⟨g, 0, none⟩, rfl, fun j p hj => ?_⟩⟩
  have hj0 : j = 0 := by
    have := (List.getElem?_eq_some_iff.1 hj).1
    simp at this
    exact this
  subst hj0
  have hp : s = p := by simpa using hj
  subst hp
  refine ⟨[.string s], rfl, rfl, fun i u hu => ?_⟩
  rw [Go.Proofs.YtfabnapjbgamaaaGreatDoorW.PrintWords.add_plain, blk_cell h]
  simpa using hu
theorem kind_no (g : Nat) (op : ByteArray) (a k : Int) (w : World) (ht : Aside0 (Er.Typ w)) (hok : (Er.Err.fault g op a (.no k)).ok w) :
    Calls Tryz.prog 20 #[.iface 73 (.pointer (some ⟨g, 0, none⟩))] w fun e w' => e = .returned (.int .i64 k) ∧ Below w.heap.size w w' := by
  refine (Er.kind_any (Er.Err.fault g op a (.no k)) w ht.out hok).mono ?_
  rintro e w' ⟨rfl, h⟩
  exact ⟨rfl, h⟩
theorem trace_no (g : Nat) (op : ByteArray) (a k : Int) (w : World) (ht : Aside0 (Er.Typ w)) (hok : (Er.Err.fault g op a (.no k)).ok w) :
    Calls Tryz.prog 27 #[.iface 73 (.pointer (some ⟨g, 0, none⟩))] w fun e w' => ∃ A c, e = .returned (.slice A 1 c) ∧ 1 ≤ c ∧ Kd.C Kd.string w' A 1 [op] ∧ Below w.heap.size w w' := by
  refine (Er.trace_any (Er.Err.fault g op a (.no k)) w ht.out hok (by simp [Er.Err.size])).mono ?_
  rintro e w' ⟨v, rfl, h, hb⟩
  obtain ⟨A, c, rfl, hc, hC⟩ := cstr1 (A := none) (c := 0) h
  exact ⟨A, c, rfl, hc, hC, hb⟩
theorem head_R {w : World} {base : Nat} {ok : Nat → Prop} {v : Value} {x : S23} (h : Kd.R k23 23 w base ok v [x]) : ∃ g c, v = .slice (some ⟨g, 0, none⟩) 1 c ∧ 1 ≤ c ∧ ∀ w', Below w.heap.size w w' → w'.cell? ⟨g, 0, none⟩ = some (.string x.f0) ∧ w'.cell? ⟨g, 1, none⟩ = some (.int .i64 x.f1) ∧ w'.cell? ⟨g, 2, none⟩ = some (.int .i64 x.f2) ∧ w'.cell? ⟨g, 3, none⟩ = some (.int .i64 x.f3) ∧ w'.cell? ⟨g, 4, none⟩ = some (.string x.f4) := by
  obtain ⟨A, c, e, hc, hC⟩ := Kd.R_reads h
  obtain ⟨_, inner, ho, _⟩ := h
  obtain ⟨hl, hn | ⟨g, cap, cells, ev, _⟩⟩ := ho
  · exfalso
    rw [e] at hn
    simp at hn
  · rw [e] at ev
    injection ev with e1 e2 e3
    subst e1
    subst e
    refine ⟨g, c, rfl, hc, fun w' hb => ?_⟩
    obtain ⟨ad, e1, h0, h1, h2, h3, h4⟩ := at_T23 (Kd.C_below hC hb) 0 (by omega) (by simp)
    cases e1
    have ea : (⟨g, 0, none⟩ : Addr).add ((0 : Int).toNat * 5) = ⟨g, 0, none⟩ := by rw [Go.Proofs.YtfabnapjbgamaaaGreatDoorW.PrintWords.add_plain]; rfl
    rw [ea] at h0 h1 h2 h3 h4
    exact ⟨h0, h1, h2, h3, h4⟩
noncomputable def lim14 : Array Oper := opsOf Tryz.f7 14
noncomputable def lim14t : List Rg.Ent := [⟨0, 0, some 87, none, Op.move (Operand.tmp 18)⟩,
  ⟨1, 1, some 88, none, Op.binOp BinOp.neq 27 (Operand.tmp 87) (Operand.const Value.nilIface) 27⟩,
  ⟨2, 2, some 89, none, Op.move (Operand.tmp 88)⟩,
  ⟨4, 4, some 90, some (89, false), Op.move (Operand.tmp 17)⟩,
  ⟨12, 12, some 91, some (89, false), Op.call { callee := Callee.builtin Builtin.len, args := #[Operand.tmp 90], argTypes := #[25] }⟩,
  ⟨20, 20, some 92, some (89, false), Op.binOp BinOp.neq 3 (Operand.tmp 91) (Operand.const (Value.int IntKind.i64 1)) 3⟩,
  ⟨36, 36, some 93, none, Op.pick (Operand.tmp 89) (Operand.const (Value.bool true)) (Operand.tmp 92)⟩,
  ⟨68, 64, some 94, none, Op.move (Operand.tmp 93)⟩,
  ⟨128, 128, some 95, some (94, false), Op.move (Operand.tmp 17)⟩,
  ⟨384, 384, some 96, some (94, false), Op.indexAddr 25 (Operand.tmp 95) (Operand.const (Value.int IntKind.i64 0))⟩,
  ⟨640, 640, some 97, some (94, false), Op.load 23 (Operand.tmp 96)⟩,
  ⟨128, 128, some 98, some (94, false), Op.load 23 (Operand.tmp 16)⟩,
  ⟨3200, 3200, some 99, some (94, false), Op.binOp BinOp.neq 23 (Operand.tmp 97) (Operand.tmp 98) 23⟩,
  ⟨4224, 4224, some 100, none, Op.pick (Operand.tmp 94) (Operand.const (Value.bool true)) (Operand.tmp 99)⟩,
  ⟨8320, 8192, some 101, none, Op.move (Operand.tmp 100)⟩,
  ⟨16384, 16384, some 102, some (101, false), Op.load 23 (Operand.tmp 16)⟩,
  ⟨16384, 16384, some 103, some (101, false), Op.move (Operand.tmp 14)⟩,
  ⟨81920, 81920, some 104, some (101, false), Op.build 39 #[(1, Operand.tmp 103)]⟩,
  ⟨180224, 180224, some 105, some (101, false), Op.call { callee := Callee.value (Operand.func 15), args := #[Operand.tmp 102, Operand.tmp 104], argTypes := #[23, 39] }⟩,
  ⟨278528, 278528, some 106, some (101, false), Op.unOp UnOp.not 4 (Operand.tmp 105)⟩,
  ⟨540672, 540672, some 107, none, Op.pick (Operand.tmp 101) (Operand.const (Value.bool true)) (Operand.tmp 106)⟩,
  ⟨1310720, 1048576, some 108, none, Op.move (Operand.tmp 107)⟩,
  ⟨2097152, 2097152, some 109, some (108, false), Op.load 23 (Operand.tmp 16)⟩,
  ⟨2097152, 2097152, some 110, some (108, false), Op.move (Operand.tmp 15)⟩,
  ⟨10485760, 10485760, some 111, some (108, false), Op.build 39 #[(1, Operand.tmp 110)]⟩,
  ⟨23068672, 23068672, some 112, some (108, false), Op.call { callee := Callee.value (Operand.func 15), args := #[Operand.tmp 109, Operand.tmp 111], argTypes := #[23, 39] }⟩,
  ⟨35651584, 35651584, some 113, some (108, false), Op.unOp UnOp.not 4 (Operand.tmp 112)⟩,
  ⟨69206016, 69206016, some 114, none, Op.pick (Operand.tmp 108) (Operand.const (Value.bool true)) (Operand.tmp 113)⟩,
  ⟨167772160, 134217728, some 115, none, Op.move (Operand.tmp 114)⟩,
  ⟨268435456, 268435456, some 116, some (115, false), Op.move (Operand.tmp 15)⟩,
  ⟨268435456, 268435456, some 117, some (115, false), Op.move (Operand.tmp 14)⟩,
  ⟨1879048192, 1879048192, some 118, some (115, false), Op.build 23 #[(0, Operand.const (Value.string { data := #[122] })), (1, Operand.const (Value.int IntKind.i64 1)), (2, Operand.tmp 116), (3, Operand.tmp 117)]⟩,
  ⟨2415919104, 2415919104, some 119, some (115, false), Op.call { callee := Callee.value (Operand.func 16), args := #[Operand.tmp 118], argTypes := #[23] }⟩,
  ⟨268435456, 268435456, some 120, some (115, false), Op.move (Operand.tmp 14)⟩,
  ⟨268435456, 268435456, some 121, some (115, false), Op.move (Operand.tmp 15)⟩,
  ⟨26038239232, 26038239232, some 122, some (115, false), Op.binOp BinOp.eql 3 (Operand.tmp 120) (Operand.tmp 121) 3⟩,
  ⟨38923141120, 38923141120, some 123, some (115, false), Op.binOp BinOp.neq 4 (Operand.tmp 119) (Operand.tmp 122) 4⟩,
  ⟨68987912192, 68987912192, some 124, none, Op.pick (Operand.tmp 115) (Operand.const (Value.bool true)) (Operand.tmp 123)⟩]
theorem lim14T : Rg.Tabd .any lim14 38 lim14t := ⟨by kernel_rfl, by kernel_rfl, by kernel_rfl⟩
set_option maxHeartbeats 8000000 in
set_option maxRecDepth 1000000 in
theorem Limits.walk (n at_ lo hi : Int) (k c : Nat) (a b_ : Int) (rb : Bool) (w : World) (HTAB : Aside0 (Val.Tab w)) (HTYP : Aside0 (Er.Typ w)) (hk7 : k ≤ 7) (hc4 : c ≤ 4)
    (hW1 : broadsidebook_Within.f n 0 7 = some (k : Int)) (hW2 : broadsidebook_Within.f at_ 0 4 = some (c : Int)) (hmin : Builtin.min2 (.int .i64 lo) (.int .i64 hi) = pure (.int .i64 a)) (hmax : Builtin.max2 (.int .i64 lo) (.int .i64 hi) = pure (.int .i64 b_)) (hab : (a == b_) = rb)
    (hM2 : pred_MakeE.f 30 [rz a b_, rz (-9223372036854775808) 9223372036854775807] = some (.ok [rz a b_])) (hH1 : pred_Holds.f (⟨#[122]⟩ : ByteArray) 1 a b_ (⟨#[]⟩ : ByteArray) false a (⟨#[]⟩ : ByteArray) = some true) (hH2 : pred_Holds.f (⟨#[122]⟩ : ByteArray) 1 a b_ (⟨#[]⟩ : ByteArray) false b_ (⟨#[]⟩ : ByteArray) = some true) (hR1 : pred_RightOne.f 30 (⟨#[122]⟩ : ByteArray) 1 b_ a (⟨#[]⟩ : ByteArray) = some rb) :
    Calls Tryz.prog 7 #[.int .i64 n, .int .i64 at_, .int .i64 lo, .int .i64 hi] w fun e w' => e = .returned (.bool true) ∧ Below w.heap.size w w' := by
  have hu23 := Tryz.underlying23
  have hu25 := Tryz.underlying25
  have hu39 := Tryz.underlying39
  have hM1 := pfx_make k hk7
  have hM3 := mny_make c hc4
  have W1_ := Aside0.mk hW1
  have W2_ := Aside0.mk hW2
  have M1 := Aside0.mk hM1
  have M2 := Aside0.mk hM2
  have M3 := Aside0.mk hM3
  have H1_ := Aside0.mk hH1
  have H2_ := Aside0.mk hH2
  have R1_ := Aside0.mk hR1
  have AB := Aside0.mk hab
  clear hW1 hW2 hM1 hM2 hM3 hH1 hH2 hR1 hab
  have HB := Aside0.mk (Below.refl w.heap.size w)
  go_enter Tryz.func7, Tryz.ntmps7
  go_upto_block 0 with (go_at_call 18; (with_reducible refine (broadsidebook_Within.calls _ _ _ _ _ W1_.out).mono ?_); rintro e wi ⟨rfl, hbi⟩; have hbi := (by first | exact hbi | exact hbi.below : Below _ _ _); have HBn := Aside0.mk (below_step (by repeat (first | (with_reducible first | exact HB.out | apply below_alloc | apply pw_below_drewN | apply below_drew1) | exact HB.out)) hbi); clear HB; have HB := HBn; clear HBn; clear hbi)
  go_cut [10] (fun s10 wc => Aside0 (Kd.R k23 23 wc w.heap.size (fun _ => True) s10 (pfx k)) ∧ Aside0 (Below w.heap.size w wc))
  case first =>
    go_wp2_with fail
    go_loopw [10, 11, 28] (fun s10 s11 s28 wr => ∃ i : Nat, i ≤ k ∧ s28 = .int .i64 i ∧ Aside0 (Kd.R k23 23 wr w.heap.size (fun _ => True) s10 (pfx i)) ∧ Aside0 (Below w.heap.size w wr)) (fun _ _ s28 _ => k - (Go.RowKit.intOf s28).toNat)
    case atStart => exact ⟨0, Nat.zero_le _, rfl, ⟨Kd.R_nil _ _ _ _ _⟩, HB⟩
    case round =>
      clear HB
      obtain ⟨i, hi_, rfl, HO, HB⟩ := hrel
      have HO_ := Aside0.mk (Below.refl wr.heap.size wr)
      by_cases hik : i < k
      · have hd : decide (i < k) = true := decide_eq_true hik
        have hd2 : decide ((i : Int) < (k : Int)) = true := decide_eq_true (by omega)
        have HL : Aside0 ((pfx i).length ≤ 7) := ⟨by rw [pfx_len i (by omega)]; omega⟩
        have HS := Aside0.mk (pfx_succ i (by omega))
        have h7 : ((7 : Nat) : Int) = 7 := rfl
        have q1 : ((i : Int) < 7) = True := eq_true (by omega)
        have q2 : (i < 7) = True := eq_true (by omega)
        go_wp2_with (first | (go_at_call 25; (with_reducible refine (broadsidekeep_Names.calls nms _ rfl).mono ?_); rintro e wn ⟨vn, rfl, hRn, hbn⟩; obtain ⟨An, cn, rfl, hcn, hCn⟩ := Kd.R_reads hRn; obtain ⟨ad, rfl, hxn⟩ := Kd.at_string hCn (i : Int) (by omega) (by show (i : Int) < ((7 : Nat) : Int); omega); rw [Int.toNat_natCast] at hxn; have HBn := Aside0.mk (below_step (by repeat (first | (with_reducible first | exact HB.out | apply below_alloc | apply pw_below_drewN | apply below_drew1) | exact HB.out)) hbn); clear HB; have HB := HBn; clear HBn; have HO_n := Aside0.mk (below_step (by repeat (first | (with_reducible first | exact HO_.out | apply below_alloc | apply pw_below_drewN | apply below_drew1) | exact HO_.out)) hbn); clear HO_; have HO_ := HO_n; clear HO_n; clear hbn hRn hCn hcn) | (at_builtin; refine Kd.R_append k23 (w0 := w) w.heap.size rfl (.tmp 31) (.tmp 37) 25 23 (.agg #[(.string ⟨#[]⟩), (.int .i64 0), (.int .i64 0), (.int .i64 0), (.string ⟨#[]⟩)]) 56 rfl Tryz.underlying25 info23 rfl (by decide) (by omega) u10 (pfx i) (pfc (rdOf ByteArray.empty nms (i : Int)) : S23) [.string (rdOf ByteArray.empty nms (i : Int)), .int .i64 3, .int .i64 0, .int .i64 0, .string (⟨#[]⟩ : ByteArray)] (fun _ => True) (fun _ => False) rfl rfl ?aP (fun _ hk => hk.elim) ?aF ?aO ?aB ?aS ?aL ?_; (case aP => exact k23_mkM _ _ _ (pfc (rdOf ByteArray.empty nms (i : Int)) : S23)); (case aB => exact (by repeat (first | (with_reducible first | exact HB.out | apply below_alloc | apply pw_below_drewN | apply below_drew1) | exact HB.out))); (case aF => exact (fun _ _ => trivial)); (case aO => exact Kd.R_below HO.out (by repeat (first | (with_reducible first | exact HO_.out | apply below_alloc | apply pw_below_drewN | apply below_drew1) | exact HO_.out))); (case aS => exact (below_size (by repeat (first | (with_reducible first | exact HB.out | apply below_alloc | apply pw_below_drewN | apply below_drew1) | exact HB.out)))); (case aL => have := HL.out; omega); intro vq wq ho hb hg hat; clear HB HO HO_; have HB := Aside0.mk hb; have HO := Aside0.mk ho; have HO_ := Aside0.mk (Below.refl wq.heap.size wq); clear hb ho hg hat))
        go_roundw
        case rel => exact ⟨i + 1, by omega, by go_num, ⟨by rw [HS.out]; exact HO.out⟩, HB⟩
        case measure => simp [Go.RowKit.intOf]; omega
      · have hd : decide (i < k) = false := decide_eq_false hik
        have hd2 : decide ((i : Int) < (k : Int)) = false := decide_eq_false (by omega)
        obtain rfl : i = k := by omega
        go_wp2_with fail
        go_meet
        exact ⟨HO, HB⟩
  case rest =>
    clear HB
    obtain ⟨HO, HB⟩ := hcut
    have hpl := pfx_len k hk7
    obtain ⟨Al, cl, e10, hcl, hCl⟩ := Kd.R_reads HO.out
    rw [hpl] at e10 hCl hcl
    subst e10
    have CL := Aside0.mk hCl
    have HCw := Aside0.mk (Below.refl wc.heap.size wc)
    clear hCl HO
    by_cases hk5 : k ≤ 5
    · have M1' : Aside0 (pred_MakeE.f 30 (pfx k) = some (.ok (pfx k))) := ⟨by rw [M1.out, if_pos hk5]⟩
      have d1 : decide ((k : Int) ≤ 5) = true := decide_eq_true (by omega)
      have d2 : decide (5 < (k : Int)) = false := decide_eq_false (by omega)
      have d3 : decide (k ≤ 5) = true := decide_eq_true (by omega)
      have d4 : decide (5 < k) = false := decide_eq_false (by omega)
      go_upto_region 11 with (go_at_call 9; (with_reducible refine (mkE_n 30 Al k cl (pfx k) hpl _ _ ?s1 ?s2 M1'.out).mono ?_); (case s1 => exact Kd.C_below CL.out (by repeat (first | (with_reducible first | exact HCw.out | apply below_alloc | apply pw_below_drewN | apply below_drew1) | exact HCw.out))); (case s2 => omega); rintro e w1 ⟨v1, x1, rfl, ⟨rfl, hR1⟩, hb1⟩; obtain ⟨A1, c1, rfl, hc1, hC1⟩ := Kd.R_reads hR1; have HBn := Aside0.mk (below_step (by repeat (first | (with_reducible first | exact HB.out | apply below_alloc | apply pw_below_drewN | apply below_drew1) | exact HB.out)) hb1); clear HB; have HB := HBn; clear HBn; have HCwn := Aside0.mk (below_step (by repeat (first | (with_reducible first | exact HCw.out | apply below_alloc | apply pw_below_drewN | apply below_drew1) | exact HCw.out)) hb1); clear HCw; have HCw := HCwn; clear HCwn; clear hb1)
      clear d1 d2 d3 d4 M1' CL HCw hC1 hR1
      obtain ⟨wT, rfl⟩ : ∃ wT : World, wT = w1 := ⟨_, rfl⟩
      go_upto_region 13 with (fail)
      have h16 : (wT.alloc (.cells #[.string (⟨#[122]⟩ : ByteArray), .int .i64 1, .int .i64 a, .int .i64 b_, .string (⟨#[]⟩ : ByteArray)] 23)).heap[wT.heap.size]? = some (.cells #[.string (⟨#[122]⟩ : ByteArray), .int .i64 1, .int .i64 a, .int .i64 b_, .string (⟨#[]⟩ : ByteArray)] 23 (0, 0)) := heap_alloc_new wT _
      have HBn := Aside0.mk (below_alloc HB.out (.cells #[.string (⟨#[122]⟩ : ByteArray), .int .i64 1, .int .i64 a, .int .i64 b_, .string (⟨#[]⟩ : ByteArray)] 23)); clear HB; have HB := HBn; clear HBn
      generalize wT.alloc (.cells #[.string (⟨#[122]⟩ : ByteArray), .int .i64 1, .int .i64 a, .int .i64 b_, .string (⟨#[]⟩ : ByteArray)] 23) = W2 at h16 HB ⊢
      generalize wT.heap.size = g16 at h16 ⊢
      have K16 := Aside0.mk h16
      have H16 := Aside0.mk (Below.refl W2.heap.size W2)
      have s0 := (blk_cell h16 0).trans rfl
      have s1 := (blk_cell h16 1).trans rfl
      have s2 := (blk_cell h16 2).trans rfl
      have s3 := (blk_cell h16 3).trans rfl
      have s4 := (blk_cell h16 4).trans rfl
      clear h16
      go_upto_region 14 with (go_at_call 9; (with_reducible refine (mkE_n 30 _ 2 2 [rz a b_, rz (-9223372036854775808) 9223372036854775807] rfl _ _ ?s1 ?s2 M2.out).mono ?_); (case s1 => exact lit23 [rz a b_, rz (-9223372036854775808) 9223372036854775807] 2 _ rfl (by simp) rfl (heap_alloc_new _ _)); (case s2 => simp); rintro e w3 ⟨v3, x3, rfl, ⟨rfl, hR3⟩, hb3⟩; obtain ⟨gx, cx, rfl, hcx, hX⟩ := head_R hR3; have HBn := Aside0.mk (below_step (by repeat (first | (with_reducible first | exact HB.out | apply below_alloc | apply pw_below_drewN | apply below_drew1) | exact HB.out)) hb3); clear HB; have HB := HBn; clear HBn; have H16n := Aside0.mk (below_step (by repeat (first | (with_reducible first | exact H16.out | apply below_alloc | apply pw_below_drewN | apply below_drew1) | exact H16.out)) hb3); clear H16; have H16 := H16n; clear H16n; clear hb3)
      have k16 := (H16.out.block _ (blk_lt K16.out)).trans K16.out
      have HX := Aside0.mk hX
      clear hX hR3 s0 s1 s2 s3 s4
      have LDx : Aside0 (∀ w', Below w3.heap.size w3 w' → (Instr.loadAt 23 (.pointer (some ⟨gx, 0, none⟩))).run Tryz.prog w' = .ok (.agg #[.string (⟨#[122]⟩ : ByteArray), .int .i64 1, .int .i64 a, .int .i64 b_, .string (⟨#[]⟩ : ByteArray)]) w') := ⟨fun w' hs => by
        obtain ⟨q0, q1, q2, q3, q4⟩ := HX.out w' hs
        go_simp⟩
      have LD16 : Aside0 (∀ w', Below w3.heap.size w3 w' → (Instr.loadAt 23 (.pointer (some ⟨g16, 0, none⟩))).run Tryz.prog w' = .ok (.agg #[.string (⟨#[122]⟩ : ByteArray), .int .i64 1, .int .i64 a, .int .i64 b_, .string (⟨#[]⟩ : ByteArray)]) w') := ⟨fun w' hs => by
        have k := (hs.block _ (blk_lt k16)).trans k16
        have s0 := (blk_cell k 0).trans rfl
        have s1 := (blk_cell k 1).trans rfl
        have s2 := (blk_cell k 2).trans rfl
        have s3 := (blk_cell k 3).trans rfl
        have s4 := (blk_cell k 4).trans rfl
        go_simp⟩
      clear k16 K16 H16
      refine Rg.start lim14 (fun w' => Below w3.heap.size w3 w') 167 38 [(1, .int .i64 at_), (8, .bool false), (14, .int .i64 a), (15, .int .i64 b_), (16, .pointer (some ⟨g16, 0, none⟩)), (17, .slice (some ⟨gx, 0, none⟩) 1 cx), (18, .nilIface)] lim14t (by kernel_rfl) (by kernel_rfl) lim14T (by decide) (fun c a a' w e h => ⟨e ▸ h.1, h.2⟩) (Rg.Fr.mk' (by kernel_rfl) rfl ⟨rfl, rfl, rfl, rfl, rfl, rfl, rfl, trivial⟩) (below_drew1 (Below.refl _ _)) (fun Q' C HE hS => ?_)
      have hb0 : Below w3.heap.size w3 w3.drew := below_drew1 (Below.refl _ _)
      generalize w3.drew = V0 at hb0 hS ⊢
      refine Rg.move C 0 87 1 (.nilIface) (by kernel_rfl) (by kernel_rfl) ?_
      refine Rg.gen C hS 1 88 3 (.bool false) (Op.binOp BinOp.neq 27 (Operand.tmp 87) (Operand.const Value.nilIface) 27) [(Operand.tmp 87, .nilIface), (Operand.const Value.nilIface, Value.nilIface)] (by kernel_rfl) (by kernel_rfl) (by kernel_rfl) (fun o ho ρ h w hS => by have h1 := h _ (.head _); have h2 := h _ (.tail _ (.head _)); simp only at h1 h2; clear h; unfold execOp; simp only [ho, h1, h2]; go_simp) ?_
      refine Rg.move C 2 89 7 (.bool false) (by kernel_rfl) (by kernel_rfl) ?_
      refine Rg.move C 3 90 15 (.slice (some ⟨gx, 0, none⟩) 1 cx) (by kernel_rfl) (by kernel_rfl) ?_
      refine Rg.gen C hS 4 91 31 (.int .i64 1) (Op.call { callee := Callee.builtin Builtin.len, args := #[Operand.tmp 90], argTypes := #[25] }) [(Operand.tmp 90, .slice (some ⟨gx, 0, none⟩) 1 cx)] (by kernel_rfl) (by kernel_rfl) (by kernel_rfl) (fun o ho ρ h w hS => by have h1 := h _ (.head _); simp only at h1; clear h; unfold execOp; simp only [ho, h1]; go_simp) ?_
      refine Rg.gen C hS 5 92 63 (Value.bool false) (Op.binOp BinOp.neq 3 (Operand.tmp 91) (Operand.const (Value.int IntKind.i64 1)) 3) [(Operand.tmp 91, .int .i64 1), (Operand.const (Value.int IntKind.i64 1), Value.int IntKind.i64 1)] (by kernel_rfl) (by kernel_rfl) (by kernel_rfl) (fun o ho ρ h w hS => by have h1 := h _ (.head _); have h2 := h _ (.tail _ (.head _)); simp only at h1 h2; clear h; unfold execOp; simp only [ho, h1, h2]; go_simp) ?_
      refine Rg.pick C 6 93 127 (Value.bool false) (by kernel_rfl) (by kernel_rfl) ?_
      refine Rg.move C 7 94 255 (Value.bool false) (by kernel_rfl) (by kernel_rfl) ?_
      refine Rg.move C 8 95 511 (.slice (some ⟨gx, 0, none⟩) 1 cx) (by kernel_rfl) (by kernel_rfl) ?_
      refine Rg.gen C hS 9 96 1023 (.pointer (some ⟨gx, 0, none⟩)) (Op.indexAddr 25 (Operand.tmp 95) (Operand.const (Value.int IntKind.i64 0))) [(Operand.tmp 95, .slice (some ⟨gx, 0, none⟩) 1 cx), (Operand.const (Value.int IntKind.i64 0), Value.int IntKind.i64 0)] (by kernel_rfl) (by kernel_rfl) (by kernel_rfl) (fun o ho ρ h w hS => by have h1 := h _ (.head _); have h2 := h _ (.tail _ (.head _)); simp only at h1 h2; clear h; unfold execOp; simp only [ho, h1, h2]; go_simp) ?_
      refine Rg.gen C hS 10 97 2047 (.agg #[.string (⟨#[122]⟩ : ByteArray), .int .i64 1, .int .i64 a, .int .i64 b_, .string (⟨#[]⟩ : ByteArray)]) (Op.load 23 (Operand.tmp 96)) [(Operand.tmp 96, .pointer (some ⟨gx, 0, none⟩))] (by kernel_rfl) (by kernel_rfl) (by kernel_rfl) (fun o ho ρ h w hS => by have h1 := h _ (.head _); simp only at h1; clear h; unfold execOp; simp only [ho, h1]; simp [LDx.out w hS]) ?_
      refine Rg.gen C hS 11 98 4095 (.agg #[.string (⟨#[122]⟩ : ByteArray), .int .i64 1, .int .i64 a, .int .i64 b_, .string (⟨#[]⟩ : ByteArray)]) (Op.load 23 (Operand.tmp 16)) [(Operand.tmp 16, .pointer (some ⟨g16, 0, none⟩))] (by kernel_rfl) (by kernel_rfl) (by kernel_rfl) (fun o ho ρ h w hS => by have h1 := h _ (.head _); simp only at h1; clear h; unfold execOp; simp only [ho, h1]; simp [LD16.out w hS]) ?_
      refine Rg.gen C hS 12 99 8191 (.bool false) (Op.binOp BinOp.neq 23 (Operand.tmp 97) (Operand.tmp 98) 23) [(Operand.tmp 97, .agg #[.string (⟨#[122]⟩ : ByteArray), .int .i64 1, .int .i64 a, .int .i64 b_, .string (⟨#[]⟩ : ByteArray)]), (Operand.tmp 98, .agg #[.string (⟨#[122]⟩ : ByteArray), .int .i64 1, .int .i64 a, .int .i64 b_, .string (⟨#[]⟩ : ByteArray)])] (by kernel_rfl) (by kernel_rfl) (by kernel_rfl) (fun o ho ρ h w hS => by have h1 := h _ (.head _); have h2 := h _ (.tail _ (.head _)); simp only at h1 h2; clear h; unfold execOp; simp only [ho, h1, h2]; simp [run_eqGuard_agg _ _ _ _ _ _ _ Tryz.eqGuardType23, same_one23]) ?_
      refine Rg.pick C 13 100 16383 (.bool false) (by kernel_rfl) (by kernel_rfl) ?_
      refine Rg.move C 14 101 32767 (.bool false) (by kernel_rfl) (by kernel_rfl) ?_
      refine Rg.gen C hS 15 102 65535 (.agg #[.string (⟨#[122]⟩ : ByteArray), .int .i64 1, .int .i64 a, .int .i64 b_, .string (⟨#[]⟩ : ByteArray)]) (Op.load 23 (Operand.tmp 16)) [(Operand.tmp 16, .pointer (some ⟨g16, 0, none⟩))] (by kernel_rfl) (by kernel_rfl) (by kernel_rfl) (fun o ho ρ h w hS => by have h1 := h _ (.head _); simp only at h1; clear h; unfold execOp; simp only [ho, h1]; simp [LD16.out w hS]) ?_
      refine Rg.move C 16 103 131071 (.int .i64 a) (by kernel_rfl) (by kernel_rfl) ?_
      refine Rg.gen C hS 17 104 262143 (.agg #[.bool false, .int .i64 a, .string (⟨#[]⟩ : ByteArray)]) (Op.build 39 #[(1, Operand.tmp 103)]) [(Operand.tmp 103, .int .i64 a)] (by kernel_rfl) (by kernel_rfl) (by kernel_rfl) (fun o ho ρ h w hS => by have h1 := h _ (.head _); simp only at h1; clear h; unfold execOp; simp only [ho, h1]; go_simp) ?_
      refine Rg.call C 18 105 524287 #[.agg #[.string (⟨#[122]⟩ : ByteArray), .int .i64 1, .int .i64 a, .int .i64 b_, .string (⟨#[]⟩ : ByteArray)], .agg #[.bool false, .int .i64 a, .string (⟨#[]⟩ : ByteArray)]] (by kernel_rfl) Tryz.func15 (by kernel_rfl) rfl (by kernel_rfl) ?_
      refine (pred_Holds.calls _ _ _ _ _ _ _ _ _ _ H1_.out).mono ?_
      rintro e V1 ⟨rfl, hbc⟩
      have hb1 : Below w3.heap.size w3 V1 := below_step hb0 hbc
      refine ⟨_, rfl, hb1, ?_⟩
      have hS := hb1
      clear hbc
      refine Rg.gen C hS 19 106 1048575 (Value.bool false) (Op.unOp UnOp.not 4 (Operand.tmp 105)) [(Operand.tmp 105, .bool true)] (by kernel_rfl) (by kernel_rfl) (by kernel_rfl) (fun o ho ρ h w hS => by have h1 := h _ (.head _); simp only at h1; clear h; unfold execOp; simp only [ho, h1]; rfl) ?_
      refine Rg.pick C 20 107 2097151 (Value.bool false) (by kernel_rfl) (by kernel_rfl) ?_
      refine Rg.move C 21 108 4194303 (Value.bool false) (by kernel_rfl) (by kernel_rfl) ?_
      refine Rg.gen C hS 22 109 8388607 (.agg #[.string (⟨#[122]⟩ : ByteArray), .int .i64 1, .int .i64 a, .int .i64 b_, .string (⟨#[]⟩ : ByteArray)]) (Op.load 23 (Operand.tmp 16)) [(Operand.tmp 16, .pointer (some ⟨g16, 0, none⟩))] (by kernel_rfl) (by kernel_rfl) (by kernel_rfl) (fun o ho ρ h w hS => by have h1 := h _ (.head _); simp only at h1; clear h; unfold execOp; simp only [ho, h1]; simp [LD16.out w hS]) ?_
      refine Rg.move C 23 110 16777215 (.int .i64 b_) (by kernel_rfl) (by kernel_rfl) ?_
      refine Rg.gen C hS 24 111 33554431 (.agg #[.bool false, .int .i64 b_, .string (⟨#[]⟩ : ByteArray)]) (Op.build 39 #[(1, Operand.tmp 110)]) [(Operand.tmp 110, .int .i64 b_)] (by kernel_rfl) (by kernel_rfl) (by kernel_rfl) (fun o ho ρ h w hS => by have h1 := h _ (.head _); simp only at h1; clear h; unfold execOp; simp only [ho, h1]; go_simp) ?_
      refine Rg.call C 25 112 67108863 #[.agg #[.string (⟨#[122]⟩ : ByteArray), .int .i64 1, .int .i64 a, .int .i64 b_, .string (⟨#[]⟩ : ByteArray)], .agg #[.bool false, .int .i64 b_, .string (⟨#[]⟩ : ByteArray)]] (by kernel_rfl) Tryz.func15 (by kernel_rfl) rfl (by kernel_rfl) ?_
      refine (pred_Holds.calls _ _ _ _ _ _ _ _ _ _ H2_.out).mono ?_
      rintro e V2 ⟨rfl, hbc⟩
      have hb2 : Below w3.heap.size w3 V2 := below_step hb1 hbc
      refine ⟨_, rfl, hb2, ?_⟩
      have hS := hb2
      clear hbc
      refine Rg.gen C hS 26 113 134217727 (Value.bool false) (Op.unOp UnOp.not 4 (Operand.tmp 112)) [(Operand.tmp 112, .bool true)] (by kernel_rfl) (by kernel_rfl) (by kernel_rfl) (fun o ho ρ h w hS => by have h1 := h _ (.head _); simp only at h1; clear h; unfold execOp; simp only [ho, h1]; rfl) ?_
      refine Rg.pick C 27 114 268435455 (Value.bool false) (by kernel_rfl) (by kernel_rfl) ?_
      refine Rg.move C 28 115 536870911 (Value.bool false) (by kernel_rfl) (by kernel_rfl) ?_
      refine Rg.move C 29 116 1073741823 (.int .i64 b_) (by kernel_rfl) (by kernel_rfl) ?_
      refine Rg.move C 30 117 2147483647 (.int .i64 a) (by kernel_rfl) (by kernel_rfl) ?_
      refine Rg.gen C hS 31 118 4294967295 (.agg #[.string (⟨#[122]⟩ : ByteArray), .int .i64 1, .int .i64 b_, .int .i64 a, .string (⟨#[]⟩ : ByteArray)]) (Op.build 23 #[(0, Operand.const (Value.string { data := #[122] })), (1, Operand.const (Value.int IntKind.i64 1)), (2, Operand.tmp 116), (3, Operand.tmp 117)]) [(Operand.const (Value.string { data := #[122] }), Value.string { data := #[122] }), (Operand.const (Value.int IntKind.i64 1), Value.int IntKind.i64 1), (Operand.tmp 116, .int .i64 b_), (Operand.tmp 117, .int .i64 a)] (by kernel_rfl) (by kernel_rfl) (by kernel_rfl) (fun o ho ρ h w hS => by have h1 := h _ (.head _); have h2 := h _ (.tail _ (.head _)); have h3 := h _ (.tail _ (.tail _ (.head _))); have h4 := h _ (.tail _ (.tail _ (.tail _ (.head _)))); simp only at h1 h2 h3 h4; clear h; unfold execOp; simp only [ho, h1, h2, h3, h4]; go_simp) ?_
      refine Rg.move C 33 120 12884901887 (.int .i64 a) (by kernel_rfl) (by kernel_rfl) ?_
      refine Rg.move C 34 121 30064771071 (.int .i64 b_) (by kernel_rfl) (by kernel_rfl) ?_
      refine Rg.gen C hS 35 122 64424509439 (.bool rb) (Op.binOp BinOp.eql 3 (Operand.tmp 120) (Operand.tmp 121) 3) [(Operand.tmp 120, .int .i64 a), (Operand.tmp 121, .int .i64 b_)] (by kernel_rfl) (by kernel_rfl) (by kernel_rfl) (fun o ho ρ h w hS => by have h1 := h _ (.head _); have h2 := h _ (.tail _ (.head _)); simp only at h1 h2; clear h; unfold execOp; simp only [ho, h1, h2]; have e_ := AB.out; go_simp) ?_
      refine Rg.call C 32 119 68719476735 #[.agg #[.string (⟨#[122]⟩ : ByteArray), .int .i64 1, .int .i64 b_, .int .i64 a, .string (⟨#[]⟩ : ByteArray)]] (by kernel_rfl) Tryz.func16 (by kernel_rfl) rfl (by kernel_rfl) ?_
      refine (pred_RightOne.calls 30 _ _ _ _ _ _ _ R1_.out).mono ?_
      rintro e V3 ⟨rfl, hbc⟩
      have hb3 : Below w3.heap.size w3 V3 := below_step hb2 hbc
      refine ⟨_, rfl, hb3, ?_⟩
      have hS := hb3
      clear hbc
      refine Rg.gen C hS 36 123 137438953471 (.bool false) (Op.binOp BinOp.neq 4 (Operand.tmp 119) (Operand.tmp 122) 4) [(Operand.tmp 119, .bool rb), (Operand.tmp 122, .bool rb)] (by kernel_rfl) (by kernel_rfl) (by kernel_rfl) (fun o ho ρ h w hS => by have h1 := h _ (.head _); have h2 := h _ (.tail _ (.head _)); simp only at h1 h2; clear h; unfold execOp; simp only [ho, h1, h2]; go_simp) ?_
      refine Rg.pick C 37 124 274877906943 (.bool false) (by kernel_rfl) (by kernel_rfl) ?_
      refine Rg.done_lit C [(1, .int .i64 at_), (8, .bool false), (124, .bool false)] (fun u => [u 0, (.int .i64 at_), u 2, u 3, u 4, u 5, u 6, u 7, (.bool false), u 9, u 10, u 11, u 12, u 13, u 14, u 15, u 16, u 17, u 18, u 19, u 20, u 21, u 22, u 23, u 24, u 25, u 26, u 27, u 28, u 29, u 30, u 31, u 32, u 33, u 34, u 35, u 36, u 37, u 38, u 39, u 40, u 41, u 42, u 43, u 44, u 45, u 46, u 47, u 48, u 49, u 50, u 51, u 52, u 53, u 54, u 55, u 56, u 57, u 58, u 59, u 60, u 61, u 62, u 63, u 64, u 65, u 66, u 67, u 68, u 69, u 70, u 71, u 72, u 73, u 74, u 75, u 76, u 77, u 78, u 79, u 80, u 81, u 82, u 83, u 84, u 85, u 86, u 87, u 88, u 89, u 90, u 91, u 92, u 93, u 94, u 95, u 96, u 97, u 98, u 99, u 100, u 101, u 102, u 103, u 104, u 105, u 106, u 107, u 108, u 109, u 110, u 111, u 112, u 113, u 114, u 115, u 116, u 117, u 118, u 119, u 120, u 121, u 122, u 123, (.bool false), u 125, u 126, u 127, u 128, u 129, u 130, u 131, u 132, u 133, u 134, u 135, u 136, u 137, u 138, u 139, u 140, u 141, u 142, u 143, u 144, u 145, u 146, u 147, u 148, u 149, u 150, u 151, u 152, u 153, u 154, u 155, u 156, u 157, u 158, u 159, u 160, u 161, u 162, u 163, u 164, u 165, u 166]) (by kernel_rfl) (by kernel_rfl) (by kernel_rfl) (by kernel_rfl) (fun u => HE.out _ _ ?_)
      have HBn := Aside0.mk (below_step HB.out hb3); clear HB; have HB := HBn; clear HBn
      clear hb0 hb1 hb2 hb3 hS LDx LD16 HX HE C AB M2 H1_ H2_ R1_
      go_upto_block 2 with (go_at_call 18; (with_reducible refine (broadsidebook_Within.calls _ _ _ _ _ W2_.out).mono ?_); rintro e wi ⟨rfl, hbi⟩; have hbi := (by first | exact hbi | exact hbi.below : Below _ _ _); have HBn := Aside0.mk (below_step (by repeat (first | (with_reducible first | exact HB.out | apply below_alloc | apply pw_below_drewN | apply below_drew1) | exact HB.out)) hbi); clear HB; have HB := HBn; clear HBn; clear hbi)
      go_cut [19] (fun s19 wc => Aside0 (Kd.R k23 23 wc w.heap.size (fun _ => True) s19 (mny c 6)) ∧ Aside0 (Below w.heap.size w wc))
      case first =>
        go_wp2_with fail
        go_loopw [19, 21, 22, 127] (fun s19 s21 s22 s127 wr => ∃ i : Nat, i ≤ 6 ∧ s127 = .int .i64 i ∧ Aside0 (Kd.R k23 23 wr w.heap.size (fun _ => True) s19 (mny c i)) ∧ Aside0 (Below w.heap.size w wr)) (fun _ _ _ s127 _ => 6 - (Go.RowKit.intOf s127).toNat)
        case atStart => exact ⟨0, Nat.zero_le _, rfl, ⟨Kd.R_nil _ _ _ _ _⟩, HB⟩
        case round =>
          clear HB
          obtain ⟨i, hi_, rfl, HO, HB⟩ := hrel
          have HO_ := Aside0.mk (Below.refl wr.heap.size wr)
          by_cases hik : i < 6
          · have hd : decide ((i : Int) < 6) = true := decide_eq_true (by omega)
            have HL : Aside0 ((mny c i).length ≤ 6) := ⟨by rw [mny_len]; omega⟩
            have HS := Aside0.mk (mny_succ c i)
            by_cases hic : i = c + 1
            · have EL : Aside0 (myc c i = (⟨(⟨#[121]⟩ : ByteArray), 2, 0, 0, (⟨#[110, 111]⟩ : ByteArray)⟩ : S23)) := ⟨by unfold myc; rw [if_pos hic]⟩
              have hx : ((i : Int) == (c : Int) + 1) = true := by rw [beq_iff_eq]; omega
              clear hic
              obtain ⟨wo, rfl⟩ : ∃ wo : World, wo = wr := ⟨_, rfl⟩
              go_upto_region 24 with (fail)
              have h22 : (wo.alloc (.cells #[.string (⟨#[121]⟩ : ByteArray), .int .i64 2, .int .i64 0, .int .i64 0, .string (⟨#[110, 111]⟩ : ByteArray)] 23)).heap[wo.heap.size]? = some (.cells #[.string (⟨#[121]⟩ : ByteArray), .int .i64 2, .int .i64 0, .int .i64 0, .string (⟨#[110, 111]⟩ : ByteArray)] 23 (0, 0)) := heap_alloc_new wo _
              have HBn := Aside0.mk (below_alloc HB.out (.cells #[.string (⟨#[121]⟩ : ByteArray), .int .i64 2, .int .i64 0, .int .i64 0, .string (⟨#[110, 111]⟩ : ByteArray)] 23)); clear HB; have HB := HBn; clear HBn
              have HBn := Aside0.mk (below_alloc HO_.out (.cells #[.string (⟨#[121]⟩ : ByteArray), .int .i64 2, .int .i64 0, .int .i64 0, .string (⟨#[110, 111]⟩ : ByteArray)] 23)); clear HO_
              have HOn := Aside0.mk (Kd.R_below HO.out HBn.out); clear HO HBn; have HO := HOn; clear HOn
              generalize wo.alloc (.cells #[.string (⟨#[121]⟩ : ByteArray), .int .i64 2, .int .i64 0, .int .i64 0, .string (⟨#[110, 111]⟩ : ByteArray)] 23) = W24 at h22 HB HO ⊢
              have HO_ := Aside0.mk (Below.refl W24.heap.size W24)
              generalize wo.heap.size = g22 at h22 ⊢
              have s0 := (blk_cell h22 0).trans rfl
              have s1 := (blk_cell h22 1).trans rfl
              have s2 := (blk_cell h22 2).trans rfl
              have s3 := (blk_cell h22 3).trans rfl
              have s4 := (blk_cell h22 4).trans rfl
              clear h22
              go_wp2_with (at_builtin; refine Kd.R_append k23 (w0 := w) w.heap.size rfl (.tmp 138) (.tmp 140) 25 23 (.agg #[(.string ⟨#[]⟩), (.int .i64 0), (.int .i64 0), (.int .i64 0), (.string ⟨#[]⟩)]) 56 rfl Tryz.underlying25 info23 rfl (by decide) (by omega) _ (mny c i) ((⟨(⟨#[121]⟩ : ByteArray), 2, 0, 0, (⟨#[110, 111]⟩ : ByteArray)⟩ : S23) : S23) [.string (⟨#[121]⟩ : ByteArray), .int .i64 2, .int .i64 0, .int .i64 0, .string (⟨#[110, 111]⟩ : ByteArray)] (fun _ => True) (fun _ => False) rfl rfl ?aP (fun _ hk => hk.elim) ?aF ?aO ?aB ?aS ?aL ?_; (case aP => exact k23_mkM _ _ _ ((⟨(⟨#[121]⟩ : ByteArray), 2, 0, 0, (⟨#[110, 111]⟩ : ByteArray)⟩ : S23) : S23)); (case aB => exact (by repeat (first | (with_reducible first | exact HB.out | apply below_alloc | apply pw_below_drewN | apply below_drew1) | exact HB.out))); (case aF => exact (fun _ _ => trivial)); (case aO => exact Kd.R_below HO.out (by repeat (first | (with_reducible first | exact HO_.out | apply below_alloc | apply pw_below_drewN | apply below_drew1) | exact HO_.out))); (case aS => exact (below_size (by repeat (first | (with_reducible first | exact HB.out | apply below_alloc | apply pw_below_drewN | apply below_drew1) | exact HB.out)))); (case aL => have := HL.out; omega); intro vq wq ho hb hg hat; clear HB HO HO_; have HB := Aside0.mk hb; have HO := Aside0.mk ho; have HO_ := Aside0.mk (Below.refl wq.heap.size wq); clear hb ho hg hat)
              go_roundw
              case rel => exact ⟨i + 1, by omega, by go_num, ⟨by rw [HS.out, EL.out]; exact HO.out⟩, HB⟩
              case measure => simp [Go.RowKit.intOf]; omega
            · have EL : Aside0 (myc c i = (⟨(⟨#[121]⟩ : ByteArray), 1, 0, 9 - (i : Int), (⟨#[]⟩ : ByteArray)⟩ : S23)) := ⟨by unfold myc; rw [if_neg hic]⟩
              have hx : ((i : Int) == (c : Int) + 1) = false := by rw [beq_eq_false_iff_ne]; omega
              obtain ⟨wo, rfl⟩ : ∃ wo : World, wo = wr := ⟨_, rfl⟩
              go_upto_region 24 with (fail)
              have h22 : (wo.alloc (.cells #[.string (⟨#[121]⟩ : ByteArray), .int .i64 1, .int .i64 0, .int .i64 (9 - (i : Int)), .string (⟨#[]⟩ : ByteArray)] 23)).heap[wo.heap.size]? = some (.cells #[.string (⟨#[121]⟩ : ByteArray), .int .i64 1, .int .i64 0, .int .i64 (9 - (i : Int)), .string (⟨#[]⟩ : ByteArray)] 23 (0, 0)) := heap_alloc_new wo _
              have HBn := Aside0.mk (below_alloc HB.out (.cells #[.string (⟨#[121]⟩ : ByteArray), .int .i64 1, .int .i64 0, .int .i64 (9 - (i : Int)), .string (⟨#[]⟩ : ByteArray)] 23)); clear HB; have HB := HBn; clear HBn
              have HBn := Aside0.mk (below_alloc HO_.out (.cells #[.string (⟨#[121]⟩ : ByteArray), .int .i64 1, .int .i64 0, .int .i64 (9 - (i : Int)), .string (⟨#[]⟩ : ByteArray)] 23)); clear HO_
              have HOn := Aside0.mk (Kd.R_below HO.out HBn.out); clear HO HBn; have HO := HOn; clear HOn
              generalize wo.alloc (.cells #[.string (⟨#[121]⟩ : ByteArray), .int .i64 1, .int .i64 0, .int .i64 (9 - (i : Int)), .string (⟨#[]⟩ : ByteArray)] 23) = W24 at h22 HB HO ⊢
              have HO_ := Aside0.mk (Below.refl W24.heap.size W24)
              generalize wo.heap.size = g22 at h22 ⊢
              have s0 := (blk_cell h22 0).trans rfl
              have s1 := (blk_cell h22 1).trans rfl
              have s2 := (blk_cell h22 2).trans rfl
              have s3 := (blk_cell h22 3).trans rfl
              have s4 := (blk_cell h22 4).trans rfl
              clear h22
              go_wp2_with (at_builtin; refine Kd.R_append k23 (w0 := w) w.heap.size rfl (.tmp 138) (.tmp 140) 25 23 (.agg #[(.string ⟨#[]⟩), (.int .i64 0), (.int .i64 0), (.int .i64 0), (.string ⟨#[]⟩)]) 56 rfl Tryz.underlying25 info23 rfl (by decide) (by omega) _ (mny c i) ((⟨(⟨#[121]⟩ : ByteArray), 1, 0, 9 - (i : Int), (⟨#[]⟩ : ByteArray)⟩ : S23) : S23) [.string (⟨#[121]⟩ : ByteArray), .int .i64 1, .int .i64 0, .int .i64 (9 - (i : Int)), .string (⟨#[]⟩ : ByteArray)] (fun _ => True) (fun _ => False) rfl rfl ?aP (fun _ hk => hk.elim) ?aF ?aO ?aB ?aS ?aL ?_; (case aP => exact k23_mkM _ _ _ ((⟨(⟨#[121]⟩ : ByteArray), 1, 0, 9 - (i : Int), (⟨#[]⟩ : ByteArray)⟩ : S23) : S23)); (case aB => exact (by repeat (first | (with_reducible first | exact HB.out | apply below_alloc | apply pw_below_drewN | apply below_drew1) | exact HB.out))); (case aF => exact (fun _ _ => trivial)); (case aO => exact Kd.R_below HO.out (by repeat (first | (with_reducible first | exact HO_.out | apply below_alloc | apply pw_below_drewN | apply below_drew1) | exact HO_.out))); (case aS => exact (below_size (by repeat (first | (with_reducible first | exact HB.out | apply below_alloc | apply pw_below_drewN | apply below_drew1) | exact HB.out)))); (case aL => have := HL.out; omega); intro vq wq ho hb hg hat; clear HB HO HO_; have HB := Aside0.mk hb; have HO := Aside0.mk ho; have HO_ := Aside0.mk (Below.refl wq.heap.size wq); clear hb ho hg hat)
              go_roundw
              case rel => exact ⟨i + 1, by omega, by go_num, ⟨by rw [HS.out, EL.out]; exact HO.out⟩, HB⟩
              case measure => simp [Go.RowKit.intOf]; omega
          · have hd : decide ((i : Int) < 6) = false := decide_eq_false (by omega)
            obtain rfl : i = 6 := by omega
            go_wp2_with fail
            go_meet
            exact ⟨HO, HB⟩
      case rest =>
        clear HB
        obtain ⟨HO, HB⟩ := hcut
        have hpl := mny_len c 6
        obtain ⟨Am, cm, em, hcm, hCm⟩ := Kd.R_reads HO.out
        rw [hpl] at em hCm hcm
        subst em
        have CM := Aside0.mk hCm
        have HMw := Aside0.mk (Below.refl wc.heap.size wc)
        clear hCm HO
        go_wp2_with (first | (go_at_call 9; (with_reducible refine (mkE_n 30 Am 6 cm (mny c 6) hpl _ _ ?s1 ?s2 M3.out).mono ?_); (case s1 => exact Kd.C_below CM.out (by repeat (first | (with_reducible first | exact HMw.out | apply below_alloc | apply pw_below_drewN | apply below_drew1) | exact HMw.out))); (case s2 => omega); rintro e w4 ⟨v4, x4, rfl, ⟨rfl, g3, rfl, hok3⟩, hb4⟩; have HBn := Aside0.mk (below_step (by repeat (first | (with_reducible first | exact HB.out | apply below_alloc | apply pw_below_drewN | apply below_drew1) | exact HB.out)) hb4); clear HB; have HB := HBn; clear HBn; have HMwn := Aside0.mk (below_step (by repeat (first | (with_reducible first | exact HMw.out | apply below_alloc | apply pw_below_drewN | apply below_drew1) | exact HMw.out)) hb4); clear HMw; have HMw := HMwn; clear HMwn; clear hb4; have HE3 := Aside0.mk (Below.refl w4.heap.size w4)) | (go_at_call 20; (with_reducible refine (kind_no _ (⟨#[112, 114, 101, 100]⟩ : ByteArray) ((c + 1 : Nat) : Int) 5 _ ?s0 ?s1).mono ?_); (case s0 => exact ⟨Er.Typ.below (by repeat (first | (with_reducible first | exact HB.out | apply below_alloc | apply pw_below_drewN | apply below_drew1) | exact HB.out)) HTYP.out⟩); (case s1 => exact Er.Err.okBelow (by repeat (first | (with_reducible first | exact HE3.out | apply below_alloc | apply pw_below_drewN | apply below_drew1) | exact HE3.out)) hok3); rintro e wi ⟨rfl, hbi⟩; have HBn := Aside0.mk (below_step (by repeat (first | (with_reducible first | exact HB.out | apply below_alloc | apply pw_below_drewN | apply below_drew1) | exact HB.out)) hbi); clear HB; have HB := HBn; clear HBn; have HMwn := Aside0.mk (below_step (by repeat (first | (with_reducible first | exact HMw.out | apply below_alloc | apply pw_below_drewN | apply below_drew1) | exact HMw.out)) hbi); clear HMw; have HMw := HMwn; clear HMwn; have HE3n := Aside0.mk (below_step (by repeat (first | (with_reducible first | exact HE3.out | apply below_alloc | apply pw_below_drewN | apply below_drew1) | exact HE3.out)) hbi); clear HE3; have HE3 := HE3n; clear HE3n; clear hbi) | (go_at_call 12; (with_reducible refine (place_no _ (⟨#[112, 114, 101, 100]⟩ : ByteArray) ((c + 1 : Nat) : Int) 5 _ ?s0 ?s1).mono ?_); (case s0 => exact ⟨Er.Typ.below (by repeat (first | (with_reducible first | exact HB.out | apply below_alloc | apply pw_below_drewN | apply below_drew1) | exact HB.out)) HTYP.out⟩); (case s1 => exact Er.Err.okBelow (by repeat (first | (with_reducible first | exact HE3.out | apply below_alloc | apply pw_below_drewN | apply below_drew1) | exact HE3.out)) hok3); rintro e wi ⟨rfl, hbi⟩; have HBn := Aside0.mk (below_step (by repeat (first | (with_reducible first | exact HB.out | apply below_alloc | apply pw_below_drewN | apply below_drew1) | exact HB.out)) hbi); clear HB; have HB := HBn; clear HBn; have HMwn := Aside0.mk (below_step (by repeat (first | (with_reducible first | exact HMw.out | apply below_alloc | apply pw_below_drewN | apply below_drew1) | exact HMw.out)) hbi); clear HMw; have HMw := HMwn; clear HMwn; have HE3n := Aside0.mk (below_step (by repeat (first | (with_reducible first | exact HE3.out | apply below_alloc | apply pw_below_drewN | apply below_drew1) | exact HE3.out)) hbi); clear HE3; have HE3 := HE3n; clear HE3n; clear hbi) | (go_at_call 27; (with_reducible refine (trace_no _ (⟨#[112, 114, 101, 100]⟩ : ByteArray) ((c + 1 : Nat) : Int) 5 _ ?s0 ?s1).mono ?_); (case s0 => exact ⟨Er.Typ.below (by repeat (first | (with_reducible first | exact HB.out | apply below_alloc | apply pw_below_drewN | apply below_drew1) | exact HB.out)) HTYP.out⟩); (case s1 => exact Er.Err.okBelow (by repeat (first | (with_reducible first | exact HE3.out | apply below_alloc | apply pw_below_drewN | apply below_drew1) | exact HE3.out)) hok3); rintro e wt ⟨At, ct, rfl, hct, hCt, hbt⟩; have HBn := Aside0.mk (below_step (by repeat (first | (with_reducible first | exact HB.out | apply below_alloc | apply pw_below_drewN | apply below_drew1) | exact HB.out)) hbt); clear HB; have HB := HBn; clear HBn; have HMwn := Aside0.mk (below_step (by repeat (first | (with_reducible first | exact HMw.out | apply below_alloc | apply pw_below_drewN | apply below_drew1) | exact HMw.out)) hbt); clear HMw; have HMw := HMwn; clear HMwn; have HE3n := Aside0.mk (below_step (by repeat (first | (with_reducible first | exact HE3.out | apply below_alloc | apply pw_below_drewN | apply below_drew1) | exact HE3.out)) hbt); clear HE3; have HE3 := HE3n; clear HE3n; clear hbt; have HTw := Aside0.mk (Below.refl wt.heap.size wt)) | (go_at_call 26; (with_reducible refine (sames_n 10 At 1 ct [(⟨#[112, 114, 101, 100]⟩ : ByteArray)] rfl _ 1 1 [(⟨#[112, 114, 101, 100]⟩ : ByteArray)] rfl true _ ?s0 hct ?s1 (by omega) (by kernel_rfl)).mono ?_); (case s0 => exact Kd.C_below hCt (by repeat (first | (with_reducible first | exact HTw.out | apply below_alloc | apply pw_below_drewN | apply below_drew1) | exact HTw.out))); (case s1 => exact cstr_lit _ (heap_alloc_new _ _)); rintro e wr ⟨rfl, hbr⟩; have HBn := Aside0.mk (below_step (by repeat (first | (with_reducible first | exact HB.out | apply below_alloc | apply pw_below_drewN | apply below_drew1) | exact HB.out)) hbr); clear HB; have HB := HBn; clear HBn; have HMwn := Aside0.mk (below_step (by repeat (first | (with_reducible first | exact HMw.out | apply below_alloc | apply pw_below_drewN | apply below_drew1) | exact HMw.out)) hbr); clear HMw; have HMw := HMwn; clear HMwn; have HE3n := Aside0.mk (below_step (by repeat (first | (with_reducible first | exact HE3.out | apply below_alloc | apply pw_below_drewN | apply below_drew1) | exact HE3.out)) hbr); clear HE3; have HE3 := HE3n; clear HE3n; clear hbr) | (go_at_call 3; (with_reducible refine (PredRuns.calls _ ?t0 ?t1).mono ?_); (case t0 => exact Val.tb HTAB (by repeat (first | (with_reducible first | exact HB.out | apply below_alloc | apply pw_below_drewN | apply below_drew1) | exact HB.out))); (case t1 => exact ⟨Er.Typ.below (by repeat (first | (with_reducible first | exact HB.out | apply below_alloc | apply pw_below_drewN | apply below_drew1) | exact HB.out)) HTYP.out⟩); rintro e wr ⟨rfl, hbr⟩; have HBn := Aside0.mk (below_step (by repeat (first | (with_reducible first | exact HB.out | apply below_alloc | apply pw_below_drewN | apply below_drew1) | exact HB.out)) hbr); clear HB; have HB := HBn; clear HBn; have HMwn := Aside0.mk (below_step (by repeat (first | (with_reducible first | exact HMw.out | apply below_alloc | apply pw_below_drewN | apply below_drew1) | exact HMw.out)) hbr); clear HMw; have HMw := HMwn; clear HMwn; have HE3n := Aside0.mk (below_step (by repeat (first | (with_reducible first | exact HE3.out | apply below_alloc | apply pw_below_drewN | apply below_drew1) | exact HE3.out)) hbr); clear HE3; have HE3 := HE3n; clear HE3n; clear hbr))
        go_ret
        exact ⟨by first | rfl | simp, HB.out⟩
    · have M1' : Aside0 (pred_MakeE.f 30 (pfx k) = some (.error (5, 7))) := ⟨by rw [M1.out, if_neg hk5]⟩
      have d1 : decide ((k : Int) ≤ 5) = false := decide_eq_false (by omega)
      have d2 : decide (5 < (k : Int)) = true := decide_eq_true (by omega)
      have d3 : decide (k ≤ 5) = false := decide_eq_false (by omega)
      have d4 : decide (5 < k) = true := decide_eq_true (by omega)
      go_upto_region 11 with (first | (go_at_call 9; (with_reducible refine (mkE_n 30 Al k cl (pfx k) hpl _ _ ?s1 ?s2 M1'.out).mono ?_); (case s1 => exact Kd.C_below CL.out (by repeat (first | (with_reducible first | exact HCw.out | apply below_alloc | apply pw_below_drewN | apply below_drew1) | exact HCw.out))); (case s2 => omega); rintro e w1 ⟨v1, x1, rfl, ⟨rfl, g1, rfl, hok1⟩, hb1⟩; have HBn := Aside0.mk (below_step (by repeat (first | (with_reducible first | exact HB.out | apply below_alloc | apply pw_below_drewN | apply below_drew1) | exact HB.out)) hb1); clear HB; have HB := HBn; clear HBn; have HCwn := Aside0.mk (below_step (by repeat (first | (with_reducible first | exact HCw.out | apply below_alloc | apply pw_below_drewN | apply below_drew1) | exact HCw.out)) hb1); clear HCw; have HCw := HCwn; clear HCwn; clear hb1; have HE1 := Aside0.mk (Below.refl w1.heap.size w1)) | (go_at_call 20; (with_reducible refine (kind_no _ (⟨#[112, 114, 101, 100]⟩ : ByteArray) ((5 : Nat) : Int) 7 _ ?s0 ?s1).mono ?_); (case s0 => exact ⟨Er.Typ.below (by repeat (first | (with_reducible first | exact HB.out | apply below_alloc | apply pw_below_drewN | apply below_drew1) | exact HB.out)) HTYP.out⟩); (case s1 => exact Er.Err.okBelow (by repeat (first | (with_reducible first | exact HE1.out | apply below_alloc | apply pw_below_drewN | apply below_drew1) | exact HE1.out)) hok1); rintro e wi ⟨rfl, hbi⟩; have HBn := Aside0.mk (below_step (by repeat (first | (with_reducible first | exact HB.out | apply below_alloc | apply pw_below_drewN | apply below_drew1) | exact HB.out)) hbi); clear HB; have HB := HBn; clear HBn; have HCwn := Aside0.mk (below_step (by repeat (first | (with_reducible first | exact HCw.out | apply below_alloc | apply pw_below_drewN | apply below_drew1) | exact HCw.out)) hbi); clear HCw; have HCw := HCwn; clear HCwn; have HE1n := Aside0.mk (below_step (by repeat (first | (with_reducible first | exact HE1.out | apply below_alloc | apply pw_below_drewN | apply below_drew1) | exact HE1.out)) hbi); clear HE1; have HE1 := HE1n; clear HE1n; clear hbi) | (go_at_call 12; (with_reducible refine (place_no _ (⟨#[112, 114, 101, 100]⟩ : ByteArray) ((5 : Nat) : Int) 7 _ ?s0 ?s1).mono ?_); (case s0 => exact ⟨Er.Typ.below (by repeat (first | (with_reducible first | exact HB.out | apply below_alloc | apply pw_below_drewN | apply below_drew1) | exact HB.out)) HTYP.out⟩); (case s1 => exact Er.Err.okBelow (by repeat (first | (with_reducible first | exact HE1.out | apply below_alloc | apply pw_below_drewN | apply below_drew1) | exact HE1.out)) hok1); rintro e wi ⟨rfl, hbi⟩; have HBn := Aside0.mk (below_step (by repeat (first | (with_reducible first | exact HB.out | apply below_alloc | apply pw_below_drewN | apply below_drew1) | exact HB.out)) hbi); clear HB; have HB := HBn; clear HBn; have HCwn := Aside0.mk (below_step (by repeat (first | (with_reducible first | exact HCw.out | apply below_alloc | apply pw_below_drewN | apply below_drew1) | exact HCw.out)) hbi); clear HCw; have HCw := HCwn; clear HCwn; have HE1n := Aside0.mk (below_step (by repeat (first | (with_reducible first | exact HE1.out | apply below_alloc | apply pw_below_drewN | apply below_drew1) | exact HE1.out)) hbi); clear HE1; have HE1 := HE1n; clear HE1n; clear hbi))
      clear d1 d2 d3 d4 M1' CL HCw HE1 hok1
      obtain ⟨wT, rfl⟩ : ∃ wT : World, wT = wi := ⟨_, rfl⟩
      go_upto_region 13 with (fail)
      have h16 : (wT.alloc (.cells #[.string (⟨#[122]⟩ : ByteArray), .int .i64 1, .int .i64 a, .int .i64 b_, .string (⟨#[]⟩ : ByteArray)] 23)).heap[wT.heap.size]? = some (.cells #[.string (⟨#[122]⟩ : ByteArray), .int .i64 1, .int .i64 a, .int .i64 b_, .string (⟨#[]⟩ : ByteArray)] 23 (0, 0)) := heap_alloc_new wT _
      have HBn := Aside0.mk (below_alloc HB.out (.cells #[.string (⟨#[122]⟩ : ByteArray), .int .i64 1, .int .i64 a, .int .i64 b_, .string (⟨#[]⟩ : ByteArray)] 23)); clear HB; have HB := HBn; clear HBn
      generalize wT.alloc (.cells #[.string (⟨#[122]⟩ : ByteArray), .int .i64 1, .int .i64 a, .int .i64 b_, .string (⟨#[]⟩ : ByteArray)] 23) = W2 at h16 HB ⊢
      generalize wT.heap.size = g16 at h16 ⊢
      have K16 := Aside0.mk h16
      have H16 := Aside0.mk (Below.refl W2.heap.size W2)
      have s0 := (blk_cell h16 0).trans rfl
      have s1 := (blk_cell h16 1).trans rfl
      have s2 := (blk_cell h16 2).trans rfl
      have s3 := (blk_cell h16 3).trans rfl
      have s4 := (blk_cell h16 4).trans rfl
      clear h16
      go_upto_region 14 with (go_at_call 9; (with_reducible refine (mkE_n 30 _ 2 2 [rz a b_, rz (-9223372036854775808) 9223372036854775807] rfl _ _ ?s1 ?s2 M2.out).mono ?_); (case s1 => exact lit23 [rz a b_, rz (-9223372036854775808) 9223372036854775807] 2 _ rfl (by simp) rfl (heap_alloc_new _ _)); (case s2 => simp); rintro e w3 ⟨v3, x3, rfl, ⟨rfl, hR3⟩, hb3⟩; obtain ⟨gx, cx, rfl, hcx, hX⟩ := head_R hR3; have HBn := Aside0.mk (below_step (by repeat (first | (with_reducible first | exact HB.out | apply below_alloc | apply pw_below_drewN | apply below_drew1) | exact HB.out)) hb3); clear HB; have HB := HBn; clear HBn; have H16n := Aside0.mk (below_step (by repeat (first | (with_reducible first | exact H16.out | apply below_alloc | apply pw_below_drewN | apply below_drew1) | exact H16.out)) hb3); clear H16; have H16 := H16n; clear H16n; clear hb3)
      have k16 := (H16.out.block _ (blk_lt K16.out)).trans K16.out
      have HX := Aside0.mk hX
      clear hX hR3 s0 s1 s2 s3 s4
      have LDx : Aside0 (∀ w', Below w3.heap.size w3 w' → (Instr.loadAt 23 (.pointer (some ⟨gx, 0, none⟩))).run Tryz.prog w' = .ok (.agg #[.string (⟨#[122]⟩ : ByteArray), .int .i64 1, .int .i64 a, .int .i64 b_, .string (⟨#[]⟩ : ByteArray)]) w') := ⟨fun w' hs => by
        obtain ⟨q0, q1, q2, q3, q4⟩ := HX.out w' hs
        go_simp⟩
      have LD16 : Aside0 (∀ w', Below w3.heap.size w3 w' → (Instr.loadAt 23 (.pointer (some ⟨g16, 0, none⟩))).run Tryz.prog w' = .ok (.agg #[.string (⟨#[122]⟩ : ByteArray), .int .i64 1, .int .i64 a, .int .i64 b_, .string (⟨#[]⟩ : ByteArray)]) w') := ⟨fun w' hs => by
        have k := (hs.block _ (blk_lt k16)).trans k16
        have s0 := (blk_cell k 0).trans rfl
        have s1 := (blk_cell k 1).trans rfl
        have s2 := (blk_cell k 2).trans rfl
        have s3 := (blk_cell k 3).trans rfl
        have s4 := (blk_cell k 4).trans rfl
        go_simp⟩
      clear k16 K16 H16
      refine Rg.start lim14 (fun w' => Below w3.heap.size w3 w') 167 38 [(1, .int .i64 at_), (8, .bool false), (14, .int .i64 a), (15, .int .i64 b_), (16, .pointer (some ⟨g16, 0, none⟩)), (17, .slice (some ⟨gx, 0, none⟩) 1 cx), (18, .nilIface)] lim14t (by kernel_rfl) (by kernel_rfl) lim14T (by decide) (fun c a a' w e h => ⟨e ▸ h.1, h.2⟩) (Rg.Fr.mk' (by kernel_rfl) rfl ⟨rfl, rfl, rfl, rfl, rfl, rfl, rfl, trivial⟩) (below_drew1 (Below.refl _ _)) (fun Q' C HE hS => ?_)
      have hb0 : Below w3.heap.size w3 w3.drew := below_drew1 (Below.refl _ _)
      generalize w3.drew = V0 at hb0 hS ⊢
      refine Rg.move C 0 87 1 (.nilIface) (by kernel_rfl) (by kernel_rfl) ?_
      refine Rg.gen C hS 1 88 3 (.bool false) (Op.binOp BinOp.neq 27 (Operand.tmp 87) (Operand.const Value.nilIface) 27) [(Operand.tmp 87, .nilIface), (Operand.const Value.nilIface, Value.nilIface)] (by kernel_rfl) (by kernel_rfl) (by kernel_rfl) (fun o ho ρ h w hS => by have h1 := h _ (.head _); have h2 := h _ (.tail _ (.head _)); simp only at h1 h2; clear h; unfold execOp; simp only [ho, h1, h2]; go_simp) ?_
      refine Rg.move C 2 89 7 (.bool false) (by kernel_rfl) (by kernel_rfl) ?_
      refine Rg.move C 3 90 15 (.slice (some ⟨gx, 0, none⟩) 1 cx) (by kernel_rfl) (by kernel_rfl) ?_
      refine Rg.gen C hS 4 91 31 (.int .i64 1) (Op.call { callee := Callee.builtin Builtin.len, args := #[Operand.tmp 90], argTypes := #[25] }) [(Operand.tmp 90, .slice (some ⟨gx, 0, none⟩) 1 cx)] (by kernel_rfl) (by kernel_rfl) (by kernel_rfl) (fun o ho ρ h w hS => by have h1 := h _ (.head _); simp only at h1; clear h; unfold execOp; simp only [ho, h1]; go_simp) ?_
      refine Rg.gen C hS 5 92 63 (Value.bool false) (Op.binOp BinOp.neq 3 (Operand.tmp 91) (Operand.const (Value.int IntKind.i64 1)) 3) [(Operand.tmp 91, .int .i64 1), (Operand.const (Value.int IntKind.i64 1), Value.int IntKind.i64 1)] (by kernel_rfl) (by kernel_rfl) (by kernel_rfl) (fun o ho ρ h w hS => by have h1 := h _ (.head _); have h2 := h _ (.tail _ (.head _)); simp only at h1 h2; clear h; unfold execOp; simp only [ho, h1, h2]; go_simp) ?_
      refine Rg.pick C 6 93 127 (Value.bool false) (by kernel_rfl) (by kernel_rfl) ?_
      refine Rg.move C 7 94 255 (Value.bool false) (by kernel_rfl) (by kernel_rfl) ?_
      refine Rg.move C 8 95 511 (.slice (some ⟨gx, 0, none⟩) 1 cx) (by kernel_rfl) (by kernel_rfl) ?_
      refine Rg.gen C hS 9 96 1023 (.pointer (some ⟨gx, 0, none⟩)) (Op.indexAddr 25 (Operand.tmp 95) (Operand.const (Value.int IntKind.i64 0))) [(Operand.tmp 95, .slice (some ⟨gx, 0, none⟩) 1 cx), (Operand.const (Value.int IntKind.i64 0), Value.int IntKind.i64 0)] (by kernel_rfl) (by kernel_rfl) (by kernel_rfl) (fun o ho ρ h w hS => by have h1 := h _ (.head _); have h2 := h _ (.tail _ (.head _)); simp only at h1 h2; clear h; unfold execOp; simp only [ho, h1, h2]; go_simp) ?_
      refine Rg.gen C hS 10 97 2047 (.agg #[.string (⟨#[122]⟩ : ByteArray), .int .i64 1, .int .i64 a, .int .i64 b_, .string (⟨#[]⟩ : ByteArray)]) (Op.load 23 (Operand.tmp 96)) [(Operand.tmp 96, .pointer (some ⟨gx, 0, none⟩))] (by kernel_rfl) (by kernel_rfl) (by kernel_rfl) (fun o ho ρ h w hS => by have h1 := h _ (.head _); simp only at h1; clear h; unfold execOp; simp only [ho, h1]; simp [LDx.out w hS]) ?_
      refine Rg.gen C hS 11 98 4095 (.agg #[.string (⟨#[122]⟩ : ByteArray), .int .i64 1, .int .i64 a, .int .i64 b_, .string (⟨#[]⟩ : ByteArray)]) (Op.load 23 (Operand.tmp 16)) [(Operand.tmp 16, .pointer (some ⟨g16, 0, none⟩))] (by kernel_rfl) (by kernel_rfl) (by kernel_rfl) (fun o ho ρ h w hS => by have h1 := h _ (.head _); simp only at h1; clear h; unfold execOp; simp only [ho, h1]; simp [LD16.out w hS]) ?_
      refine Rg.gen C hS 12 99 8191 (.bool false) (Op.binOp BinOp.neq 23 (Operand.tmp 97) (Operand.tmp 98) 23) [(Operand.tmp 97, .agg #[.string (⟨#[122]⟩ : ByteArray), .int .i64 1, .int .i64 a, .int .i64 b_, .string (⟨#[]⟩ : ByteArray)]), (Operand.tmp 98, .agg #[.string (⟨#[122]⟩ : ByteArray), .int .i64 1, .int .i64 a, .int .i64 b_, .string (⟨#[]⟩ : ByteArray)])] (by kernel_rfl) (by kernel_rfl) (by kernel_rfl) (fun o ho ρ h w hS => by have h1 := h _ (.head _); have h2 := h _ (.tail _ (.head _)); simp only at h1 h2; clear h; unfold execOp; simp only [ho, h1, h2]; simp [run_eqGuard_agg _ _ _ _ _ _ _ Tryz.eqGuardType23, same_one23]) ?_
      refine Rg.pick C 13 100 16383 (.bool false) (by kernel_rfl) (by kernel_rfl) ?_
      refine Rg.move C 14 101 32767 (.bool false) (by kernel_rfl) (by kernel_rfl) ?_
      refine Rg.gen C hS 15 102 65535 (.agg #[.string (⟨#[122]⟩ : ByteArray), .int .i64 1, .int .i64 a, .int .i64 b_, .string (⟨#[]⟩ : ByteArray)]) (Op.load 23 (Operand.tmp 16)) [(Operand.tmp 16, .pointer (some ⟨g16, 0, none⟩))] (by kernel_rfl) (by kernel_rfl) (by kernel_rfl) (fun o ho ρ h w hS => by have h1 := h _ (.head _); simp only at h1; clear h; unfold execOp; simp only [ho, h1]; simp [LD16.out w hS]) ?_
      refine Rg.move C 16 103 131071 (.int .i64 a) (by kernel_rfl) (by kernel_rfl) ?_
      refine Rg.gen C hS 17 104 262143 (.agg #[.bool false, .int .i64 a, .string (⟨#[]⟩ : ByteArray)]) (Op.build 39 #[(1, Operand.tmp 103)]) [(Operand.tmp 103, .int .i64 a)] (by kernel_rfl) (by kernel_rfl) (by kernel_rfl) (fun o ho ρ h w hS => by have h1 := h _ (.head _); simp only at h1; clear h; unfold execOp; simp only [ho, h1]; go_simp) ?_
      refine Rg.call C 18 105 524287 #[.agg #[.string (⟨#[122]⟩ : ByteArray), .int .i64 1, .int .i64 a, .int .i64 b_, .string (⟨#[]⟩ : ByteArray)], .agg #[.bool false, .int .i64 a, .string (⟨#[]⟩ : ByteArray)]] (by kernel_rfl) Tryz.func15 (by kernel_rfl) rfl (by kernel_rfl) ?_
      refine (pred_Holds.calls _ _ _ _ _ _ _ _ _ _ H1_.out).mono ?_
      rintro e V1 ⟨rfl, hbc⟩
      have hb1 : Below w3.heap.size w3 V1 := below_step hb0 hbc
      refine ⟨_, rfl, hb1, ?_⟩
      have hS := hb1
      clear hbc
      refine Rg.gen C hS 19 106 1048575 (Value.bool false) (Op.unOp UnOp.not 4 (Operand.tmp 105)) [(Operand.tmp 105, .bool true)] (by kernel_rfl) (by kernel_rfl) (by kernel_rfl) (fun o ho ρ h w hS => by have h1 := h _ (.head _); simp only at h1; clear h; unfold execOp; simp only [ho, h1]; rfl) ?_
      refine Rg.pick C 20 107 2097151 (Value.bool false) (by kernel_rfl) (by kernel_rfl) ?_
      refine Rg.move C 21 108 4194303 (Value.bool false) (by kernel_rfl) (by kernel_rfl) ?_
      refine Rg.gen C hS 22 109 8388607 (.agg #[.string (⟨#[122]⟩ : ByteArray), .int .i64 1, .int .i64 a, .int .i64 b_, .string (⟨#[]⟩ : ByteArray)]) (Op.load 23 (Operand.tmp 16)) [(Operand.tmp 16, .pointer (some ⟨g16, 0, none⟩))] (by kernel_rfl) (by kernel_rfl) (by kernel_rfl) (fun o ho ρ h w hS => by have h1 := h _ (.head _); simp only at h1; clear h; unfold execOp; simp only [ho, h1]; simp [LD16.out w hS]) ?_
      refine Rg.move C 23 110 16777215 (.int .i64 b_) (by kernel_rfl) (by kernel_rfl) ?_
      refine Rg.gen C hS 24 111 33554431 (.agg #[.bool false, .int .i64 b_, .string (⟨#[]⟩ : ByteArray)]) (Op.build 39 #[(1, Operand.tmp 110)]) [(Operand.tmp 110, .int .i64 b_)] (by kernel_rfl) (by kernel_rfl) (by kernel_rfl) (fun o ho ρ h w hS => by have h1 := h _ (.head _); simp only at h1; clear h; unfold execOp; simp only [ho, h1]; go_simp) ?_
      refine Rg.call C 25 112 67108863 #[.agg #[.string (⟨#[122]⟩ : ByteArray), .int .i64 1, .int .i64 a, .int .i64 b_, .string (⟨#[]⟩ : ByteArray)], .agg #[.bool false, .int .i64 b_, .string (⟨#[]⟩ : ByteArray)]] (by kernel_rfl) Tryz.func15 (by kernel_rfl) rfl (by kernel_rfl) ?_
      refine (pred_Holds.calls _ _ _ _ _ _ _ _ _ _ H2_.out).mono ?_
      rintro e V2 ⟨rfl, hbc⟩
      have hb2 : Below w3.heap.size w3 V2 := below_step hb1 hbc
      refine ⟨_, rfl, hb2, ?_⟩
      have hS := hb2
      clear hbc
      refine Rg.gen C hS 26 113 134217727 (Value.bool false) (Op.unOp UnOp.not 4 (Operand.tmp 112)) [(Operand.tmp 112, .bool true)] (by kernel_rfl) (by kernel_rfl) (by kernel_rfl) (fun o ho ρ h w hS => by have h1 := h _ (.head _); simp only at h1; clear h; unfold execOp; simp only [ho, h1]; rfl) ?_
      refine Rg.pick C 27 114 268435455 (Value.bool false) (by kernel_rfl) (by kernel_rfl) ?_
      refine Rg.move C 28 115 536870911 (Value.bool false) (by kernel_rfl) (by kernel_rfl) ?_
      refine Rg.move C 29 116 1073741823 (.int .i64 b_) (by kernel_rfl) (by kernel_rfl) ?_
      refine Rg.move C 30 117 2147483647 (.int .i64 a) (by kernel_rfl) (by kernel_rfl) ?_
      refine Rg.gen C hS 31 118 4294967295 (.agg #[.string (⟨#[122]⟩ : ByteArray), .int .i64 1, .int .i64 b_, .int .i64 a, .string (⟨#[]⟩ : ByteArray)]) (Op.build 23 #[(0, Operand.const (Value.string { data := #[122] })), (1, Operand.const (Value.int IntKind.i64 1)), (2, Operand.tmp 116), (3, Operand.tmp 117)]) [(Operand.const (Value.string { data := #[122] }), Value.string { data := #[122] }), (Operand.const (Value.int IntKind.i64 1), Value.int IntKind.i64 1), (Operand.tmp 116, .int .i64 b_), (Operand.tmp 117, .int .i64 a)] (by kernel_rfl) (by kernel_rfl) (by kernel_rfl) (fun o ho ρ h w hS => by have h1 := h _ (.head _); have h2 := h _ (.tail _ (.head _)); have h3 := h _ (.tail _ (.tail _ (.head _))); have h4 := h _ (.tail _ (.tail _ (.tail _ (.head _)))); simp only at h1 h2 h3 h4; clear h; unfold execOp; simp only [ho, h1, h2, h3, h4]; go_simp) ?_
      refine Rg.move C 33 120 12884901887 (.int .i64 a) (by kernel_rfl) (by kernel_rfl) ?_
      refine Rg.move C 34 121 30064771071 (.int .i64 b_) (by kernel_rfl) (by kernel_rfl) ?_
      refine Rg.gen C hS 35 122 64424509439 (.bool rb) (Op.binOp BinOp.eql 3 (Operand.tmp 120) (Operand.tmp 121) 3) [(Operand.tmp 120, .int .i64 a), (Operand.tmp 121, .int .i64 b_)] (by kernel_rfl) (by kernel_rfl) (by kernel_rfl) (fun o ho ρ h w hS => by have h1 := h _ (.head _); have h2 := h _ (.tail _ (.head _)); simp only at h1 h2; clear h; unfold execOp; simp only [ho, h1, h2]; have e_ := AB.out; go_simp) ?_
      refine Rg.call C 32 119 68719476735 #[.agg #[.string (⟨#[122]⟩ : ByteArray), .int .i64 1, .int .i64 b_, .int .i64 a, .string (⟨#[]⟩ : ByteArray)]] (by kernel_rfl) Tryz.func16 (by kernel_rfl) rfl (by kernel_rfl) ?_
      refine (pred_RightOne.calls 30 _ _ _ _ _ _ _ R1_.out).mono ?_
      rintro e V3 ⟨rfl, hbc⟩
      have hb3 : Below w3.heap.size w3 V3 := below_step hb2 hbc
      refine ⟨_, rfl, hb3, ?_⟩
      have hS := hb3
      clear hbc
      refine Rg.gen C hS 36 123 137438953471 (.bool false) (Op.binOp BinOp.neq 4 (Operand.tmp 119) (Operand.tmp 122) 4) [(Operand.tmp 119, .bool rb), (Operand.tmp 122, .bool rb)] (by kernel_rfl) (by kernel_rfl) (by kernel_rfl) (fun o ho ρ h w hS => by have h1 := h _ (.head _); have h2 := h _ (.tail _ (.head _)); simp only at h1 h2; clear h; unfold execOp; simp only [ho, h1, h2]; go_simp) ?_
      refine Rg.pick C 37 124 274877906943 (.bool false) (by kernel_rfl) (by kernel_rfl) ?_
      refine Rg.done_lit C [(1, .int .i64 at_), (8, .bool false), (124, .bool false)] (fun u => [u 0, (.int .i64 at_), u 2, u 3, u 4, u 5, u 6, u 7, (.bool false), u 9, u 10, u 11, u 12, u 13, u 14, u 15, u 16, u 17, u 18, u 19, u 20, u 21, u 22, u 23, u 24, u 25, u 26, u 27, u 28, u 29, u 30, u 31, u 32, u 33, u 34, u 35, u 36, u 37, u 38, u 39, u 40, u 41, u 42, u 43, u 44, u 45, u 46, u 47, u 48, u 49, u 50, u 51, u 52, u 53, u 54, u 55, u 56, u 57, u 58, u 59, u 60, u 61, u 62, u 63, u 64, u 65, u 66, u 67, u 68, u 69, u 70, u 71, u 72, u 73, u 74, u 75, u 76, u 77, u 78, u 79, u 80, u 81, u 82, u 83, u 84, u 85, u 86, u 87, u 88, u 89, u 90, u 91, u 92, u 93, u 94, u 95, u 96, u 97, u 98, u 99, u 100, u 101, u 102, u 103, u 104, u 105, u 106, u 107, u 108, u 109, u 110, u 111, u 112, u 113, u 114, u 115, u 116, u 117, u 118, u 119, u 120, u 121, u 122, u 123, (.bool false), u 125, u 126, u 127, u 128, u 129, u 130, u 131, u 132, u 133, u 134, u 135, u 136, u 137, u 138, u 139, u 140, u 141, u 142, u 143, u 144, u 145, u 146, u 147, u 148, u 149, u 150, u 151, u 152, u 153, u 154, u 155, u 156, u 157, u 158, u 159, u 160, u 161, u 162, u 163, u 164, u 165, u 166]) (by kernel_rfl) (by kernel_rfl) (by kernel_rfl) (by kernel_rfl) (fun u => HE.out _ _ ?_)
      have HBn := Aside0.mk (below_step HB.out hb3); clear HB; have HB := HBn; clear HBn
      clear hb0 hb1 hb2 hb3 hS LDx LD16 HX HE C AB M2 H1_ H2_ R1_
      go_upto_block 2 with (go_at_call 18; (with_reducible refine (broadsidebook_Within.calls _ _ _ _ _ W2_.out).mono ?_); rintro e wi ⟨rfl, hbi⟩; have hbi := (by first | exact hbi | exact hbi.below : Below _ _ _); have HBn := Aside0.mk (below_step (by repeat (first | (with_reducible first | exact HB.out | apply below_alloc | apply pw_below_drewN | apply below_drew1) | exact HB.out)) hbi); clear HB; have HB := HBn; clear HBn; clear hbi)
      go_cut [19] (fun s19 wc => Aside0 (Kd.R k23 23 wc w.heap.size (fun _ => True) s19 (mny c 6)) ∧ Aside0 (Below w.heap.size w wc))
      case first =>
        go_wp2_with fail
        go_loopw [19, 21, 22, 127] (fun s19 s21 s22 s127 wr => ∃ i : Nat, i ≤ 6 ∧ s127 = .int .i64 i ∧ Aside0 (Kd.R k23 23 wr w.heap.size (fun _ => True) s19 (mny c i)) ∧ Aside0 (Below w.heap.size w wr)) (fun _ _ _ s127 _ => 6 - (Go.RowKit.intOf s127).toNat)
        case atStart => exact ⟨0, Nat.zero_le _, rfl, ⟨Kd.R_nil _ _ _ _ _⟩, HB⟩
        case round =>
          clear HB
          obtain ⟨i, hi_, rfl, HO, HB⟩ := hrel
          have HO_ := Aside0.mk (Below.refl wr.heap.size wr)
          by_cases hik : i < 6
          · have hd : decide ((i : Int) < 6) = true := decide_eq_true (by omega)
            have HL : Aside0 ((mny c i).length ≤ 6) := ⟨by rw [mny_len]; omega⟩
            have HS := Aside0.mk (mny_succ c i)
            by_cases hic : i = c + 1
            · have EL : Aside0 (myc c i = (⟨(⟨#[121]⟩ : ByteArray), 2, 0, 0, (⟨#[110, 111]⟩ : ByteArray)⟩ : S23)) := ⟨by unfold myc; rw [if_pos hic]⟩
              have hx : ((i : Int) == (c : Int) + 1) = true := by rw [beq_iff_eq]; omega
              clear hic
              obtain ⟨wo, rfl⟩ : ∃ wo : World, wo = wr := ⟨_, rfl⟩
              go_upto_region 24 with (fail)
              have h22 : (wo.alloc (.cells #[.string (⟨#[121]⟩ : ByteArray), .int .i64 2, .int .i64 0, .int .i64 0, .string (⟨#[110, 111]⟩ : ByteArray)] 23)).heap[wo.heap.size]? = some (.cells #[.string (⟨#[121]⟩ : ByteArray), .int .i64 2, .int .i64 0, .int .i64 0, .string (⟨#[110, 111]⟩ : ByteArray)] 23 (0, 0)) := heap_alloc_new wo _
              have HBn := Aside0.mk (below_alloc HB.out (.cells #[.string (⟨#[121]⟩ : ByteArray), .int .i64 2, .int .i64 0, .int .i64 0, .string (⟨#[110, 111]⟩ : ByteArray)] 23)); clear HB; have HB := HBn; clear HBn
              have HBn := Aside0.mk (below_alloc HO_.out (.cells #[.string (⟨#[121]⟩ : ByteArray), .int .i64 2, .int .i64 0, .int .i64 0, .string (⟨#[110, 111]⟩ : ByteArray)] 23)); clear HO_
              have HOn := Aside0.mk (Kd.R_below HO.out HBn.out); clear HO HBn; have HO := HOn; clear HOn
              generalize wo.alloc (.cells #[.string (⟨#[121]⟩ : ByteArray), .int .i64 2, .int .i64 0, .int .i64 0, .string (⟨#[110, 111]⟩ : ByteArray)] 23) = W24 at h22 HB HO ⊢
              have HO_ := Aside0.mk (Below.refl W24.heap.size W24)
              generalize wo.heap.size = g22 at h22 ⊢
              have s0 := (blk_cell h22 0).trans rfl
              have s1 := (blk_cell h22 1).trans rfl
              have s2 := (blk_cell h22 2).trans rfl
              have s3 := (blk_cell h22 3).trans rfl
              have s4 := (blk_cell h22 4).trans rfl
              clear h22
              go_wp2_with (at_builtin; refine Kd.R_append k23 (w0 := w) w.heap.size rfl (.tmp 138) (.tmp 140) 25 23 (.agg #[(.string ⟨#[]⟩), (.int .i64 0), (.int .i64 0), (.int .i64 0), (.string ⟨#[]⟩)]) 56 rfl Tryz.underlying25 info23 rfl (by decide) (by omega) _ (mny c i) ((⟨(⟨#[121]⟩ : ByteArray), 2, 0, 0, (⟨#[110, 111]⟩ : ByteArray)⟩ : S23) : S23) [.string (⟨#[121]⟩ : ByteArray), .int .i64 2, .int .i64 0, .int .i64 0, .string (⟨#[110, 111]⟩ : ByteArray)] (fun _ => True) (fun _ => False) rfl rfl ?aP (fun _ hk => hk.elim) ?aF ?aO ?aB ?aS ?aL ?_; (case aP => exact k23_mkM _ _ _ ((⟨(⟨#[121]⟩ : ByteArray), 2, 0, 0, (⟨#[110, 111]⟩ : ByteArray)⟩ : S23) : S23)); (case aB => exact (by repeat (first | (with_reducible first | exact HB.out | apply below_alloc | apply pw_below_drewN | apply below_drew1) | exact HB.out))); (case aF => exact (fun _ _ => trivial)); (case aO => exact Kd.R_below HO.out (by repeat (first | (with_reducible first | exact HO_.out | apply below_alloc | apply pw_below_drewN | apply below_drew1) | exact HO_.out))); (case aS => exact (below_size (by repeat (first | (with_reducible first | exact HB.out | apply below_alloc | apply pw_below_drewN | apply below_drew1) | exact HB.out)))); (case aL => have := HL.out; omega); intro vq wq ho hb hg hat; clear HB HO HO_; have HB := Aside0.mk hb; have HO := Aside0.mk ho; have HO_ := Aside0.mk (Below.refl wq.heap.size wq); clear hb ho hg hat)
              go_roundw
              case rel => exact ⟨i + 1, by omega, by go_num, ⟨by rw [HS.out, EL.out]; exact HO.out⟩, HB⟩
              case measure => simp [Go.RowKit.intOf]; omega
            · have EL : Aside0 (myc c i = (⟨(⟨#[121]⟩ : ByteArray), 1, 0, 9 - (i : Int), (⟨#[]⟩ : ByteArray)⟩ : S23)) := ⟨by unfold myc; rw [if_neg hic]⟩
              have hx : ((i : Int) == (c : Int) + 1) = false := by rw [beq_eq_false_iff_ne]; omega
              obtain ⟨wo, rfl⟩ : ∃ wo : World, wo = wr := ⟨_, rfl⟩
              go_upto_region 24 with (fail)
              have h22 : (wo.alloc (.cells #[.string (⟨#[121]⟩ : ByteArray), .int .i64 1, .int .i64 0, .int .i64 (9 - (i : Int)), .string (⟨#[]⟩ : ByteArray)] 23)).heap[wo.heap.size]? = some (.cells #[.string (⟨#[121]⟩ : ByteArray), .int .i64 1, .int .i64 0, .int .i64 (9 - (i : Int)), .string (⟨#[]⟩ : ByteArray)] 23 (0, 0)) := heap_alloc_new wo _
              have HBn := Aside0.mk (below_alloc HB.out (.cells #[.string (⟨#[121]⟩ : ByteArray), .int .i64 1, .int .i64 0, .int .i64 (9 - (i : Int)), .string (⟨#[]⟩ : ByteArray)] 23)); clear HB; have HB := HBn; clear HBn
              have HBn := Aside0.mk (below_alloc HO_.out (.cells #[.string (⟨#[121]⟩ : ByteArray), .int .i64 1, .int .i64 0, .int .i64 (9 - (i : Int)), .string (⟨#[]⟩ : ByteArray)] 23)); clear HO_
              have HOn := Aside0.mk (Kd.R_below HO.out HBn.out); clear HO HBn; have HO := HOn; clear HOn
              generalize wo.alloc (.cells #[.string (⟨#[121]⟩ : ByteArray), .int .i64 1, .int .i64 0, .int .i64 (9 - (i : Int)), .string (⟨#[]⟩ : ByteArray)] 23) = W24 at h22 HB HO ⊢
              have HO_ := Aside0.mk (Below.refl W24.heap.size W24)
              generalize wo.heap.size = g22 at h22 ⊢
              have s0 := (blk_cell h22 0).trans rfl
              have s1 := (blk_cell h22 1).trans rfl
              have s2 := (blk_cell h22 2).trans rfl
              have s3 := (blk_cell h22 3).trans rfl
              have s4 := (blk_cell h22 4).trans rfl
              clear h22
              go_wp2_with (at_builtin; refine Kd.R_append k23 (w0 := w) w.heap.size rfl (.tmp 138) (.tmp 140) 25 23 (.agg #[(.string ⟨#[]⟩), (.int .i64 0), (.int .i64 0), (.int .i64 0), (.string ⟨#[]⟩)]) 56 rfl Tryz.underlying25 info23 rfl (by decide) (by omega) _ (mny c i) ((⟨(⟨#[121]⟩ : ByteArray), 1, 0, 9 - (i : Int), (⟨#[]⟩ : ByteArray)⟩ : S23) : S23) [.string (⟨#[121]⟩ : ByteArray), .int .i64 1, .int .i64 0, .int .i64 (9 - (i : Int)), .string (⟨#[]⟩ : ByteArray)] (fun _ => True) (fun _ => False) rfl rfl ?aP (fun _ hk => hk.elim) ?aF ?aO ?aB ?aS ?aL ?_; (case aP => exact k23_mkM _ _ _ ((⟨(⟨#[121]⟩ : ByteArray), 1, 0, 9 - (i : Int), (⟨#[]⟩ : ByteArray)⟩ : S23) : S23)); (case aB => exact (by repeat (first | (with_reducible first | exact HB.out | apply below_alloc | apply pw_below_drewN | apply below_drew1) | exact HB.out))); (case aF => exact (fun _ _ => trivial)); (case aO => exact Kd.R_below HO.out (by repeat (first | (with_reducible first | exact HO_.out | apply below_alloc | apply pw_below_drewN | apply below_drew1) | exact HO_.out))); (case aS => exact (below_size (by repeat (first | (with_reducible first | exact HB.out | apply below_alloc | apply pw_below_drewN | apply below_drew1) | exact HB.out)))); (case aL => have := HL.out; omega); intro vq wq ho hb hg hat; clear HB HO HO_; have HB := Aside0.mk hb; have HO := Aside0.mk ho; have HO_ := Aside0.mk (Below.refl wq.heap.size wq); clear hb ho hg hat)
              go_roundw
              case rel => exact ⟨i + 1, by omega, by go_num, ⟨by rw [HS.out, EL.out]; exact HO.out⟩, HB⟩
              case measure => simp [Go.RowKit.intOf]; omega
          · have hd : decide ((i : Int) < 6) = false := decide_eq_false (by omega)
            obtain rfl : i = 6 := by omega
            go_wp2_with fail
            go_meet
            exact ⟨HO, HB⟩
      case rest =>
        clear HB
        obtain ⟨HO, HB⟩ := hcut
        have hpl := mny_len c 6
        obtain ⟨Am, cm, em, hcm, hCm⟩ := Kd.R_reads HO.out
        rw [hpl] at em hCm hcm
        subst em
        have CM := Aside0.mk hCm
        have HMw := Aside0.mk (Below.refl wc.heap.size wc)
        clear hCm HO
        go_wp2_with (first | (go_at_call 9; (with_reducible refine (mkE_n 30 Am 6 cm (mny c 6) hpl _ _ ?s1 ?s2 M3.out).mono ?_); (case s1 => exact Kd.C_below CM.out (by repeat (first | (with_reducible first | exact HMw.out | apply below_alloc | apply pw_below_drewN | apply below_drew1) | exact HMw.out))); (case s2 => omega); rintro e w4 ⟨v4, x4, rfl, ⟨rfl, g3, rfl, hok3⟩, hb4⟩; have HBn := Aside0.mk (below_step (by repeat (first | (with_reducible first | exact HB.out | apply below_alloc | apply pw_below_drewN | apply below_drew1) | exact HB.out)) hb4); clear HB; have HB := HBn; clear HBn; have HMwn := Aside0.mk (below_step (by repeat (first | (with_reducible first | exact HMw.out | apply below_alloc | apply pw_below_drewN | apply below_drew1) | exact HMw.out)) hb4); clear HMw; have HMw := HMwn; clear HMwn; clear hb4; have HE3 := Aside0.mk (Below.refl w4.heap.size w4)) | (go_at_call 20; (with_reducible refine (kind_no _ (⟨#[112, 114, 101, 100]⟩ : ByteArray) ((c + 1 : Nat) : Int) 5 _ ?s0 ?s1).mono ?_); (case s0 => exact ⟨Er.Typ.below (by repeat (first | (with_reducible first | exact HB.out | apply below_alloc | apply pw_below_drewN | apply below_drew1) | exact HB.out)) HTYP.out⟩); (case s1 => exact Er.Err.okBelow (by repeat (first | (with_reducible first | exact HE3.out | apply below_alloc | apply pw_below_drewN | apply below_drew1) | exact HE3.out)) hok3); rintro e wi ⟨rfl, hbi⟩; have HBn := Aside0.mk (below_step (by repeat (first | (with_reducible first | exact HB.out | apply below_alloc | apply pw_below_drewN | apply below_drew1) | exact HB.out)) hbi); clear HB; have HB := HBn; clear HBn; have HMwn := Aside0.mk (below_step (by repeat (first | (with_reducible first | exact HMw.out | apply below_alloc | apply pw_below_drewN | apply below_drew1) | exact HMw.out)) hbi); clear HMw; have HMw := HMwn; clear HMwn; have HE3n := Aside0.mk (below_step (by repeat (first | (with_reducible first | exact HE3.out | apply below_alloc | apply pw_below_drewN | apply below_drew1) | exact HE3.out)) hbi); clear HE3; have HE3 := HE3n; clear HE3n; clear hbi) | (go_at_call 12; (with_reducible refine (place_no _ (⟨#[112, 114, 101, 100]⟩ : ByteArray) ((c + 1 : Nat) : Int) 5 _ ?s0 ?s1).mono ?_); (case s0 => exact ⟨Er.Typ.below (by repeat (first | (with_reducible first | exact HB.out | apply below_alloc | apply pw_below_drewN | apply below_drew1) | exact HB.out)) HTYP.out⟩); (case s1 => exact Er.Err.okBelow (by repeat (first | (with_reducible first | exact HE3.out | apply below_alloc | apply pw_below_drewN | apply below_drew1) | exact HE3.out)) hok3); rintro e wi ⟨rfl, hbi⟩; have HBn := Aside0.mk (below_step (by repeat (first | (with_reducible first | exact HB.out | apply below_alloc | apply pw_below_drewN | apply below_drew1) | exact HB.out)) hbi); clear HB; have HB := HBn; clear HBn; have HMwn := Aside0.mk (below_step (by repeat (first | (with_reducible first | exact HMw.out | apply below_alloc | apply pw_below_drewN | apply below_drew1) | exact HMw.out)) hbi); clear HMw; have HMw := HMwn; clear HMwn; have HE3n := Aside0.mk (below_step (by repeat (first | (with_reducible first | exact HE3.out | apply below_alloc | apply pw_below_drewN | apply below_drew1) | exact HE3.out)) hbi); clear HE3; have HE3 := HE3n; clear HE3n; clear hbi) | (go_at_call 27; (with_reducible refine (trace_no _ (⟨#[112, 114, 101, 100]⟩ : ByteArray) ((c + 1 : Nat) : Int) 5 _ ?s0 ?s1).mono ?_); (case s0 => exact ⟨Er.Typ.below (by repeat (first | (with_reducible first | exact HB.out | apply below_alloc | apply pw_below_drewN | apply below_drew1) | exact HB.out)) HTYP.out⟩); (case s1 => exact Er.Err.okBelow (by repeat (first | (with_reducible first | exact HE3.out | apply below_alloc | apply pw_below_drewN | apply below_drew1) | exact HE3.out)) hok3); rintro e wt ⟨At, ct, rfl, hct, hCt, hbt⟩; have HBn := Aside0.mk (below_step (by repeat (first | (with_reducible first | exact HB.out | apply below_alloc | apply pw_below_drewN | apply below_drew1) | exact HB.out)) hbt); clear HB; have HB := HBn; clear HBn; have HMwn := Aside0.mk (below_step (by repeat (first | (with_reducible first | exact HMw.out | apply below_alloc | apply pw_below_drewN | apply below_drew1) | exact HMw.out)) hbt); clear HMw; have HMw := HMwn; clear HMwn; have HE3n := Aside0.mk (below_step (by repeat (first | (with_reducible first | exact HE3.out | apply below_alloc | apply pw_below_drewN | apply below_drew1) | exact HE3.out)) hbt); clear HE3; have HE3 := HE3n; clear HE3n; clear hbt; have HTw := Aside0.mk (Below.refl wt.heap.size wt)) | (go_at_call 26; (with_reducible refine (sames_n 10 At 1 ct [(⟨#[112, 114, 101, 100]⟩ : ByteArray)] rfl _ 1 1 [(⟨#[112, 114, 101, 100]⟩ : ByteArray)] rfl true _ ?s0 hct ?s1 (by omega) (by kernel_rfl)).mono ?_); (case s0 => exact Kd.C_below hCt (by repeat (first | (with_reducible first | exact HTw.out | apply below_alloc | apply pw_below_drewN | apply below_drew1) | exact HTw.out))); (case s1 => exact cstr_lit _ (heap_alloc_new _ _)); rintro e wr ⟨rfl, hbr⟩; have HBn := Aside0.mk (below_step (by repeat (first | (with_reducible first | exact HB.out | apply below_alloc | apply pw_below_drewN | apply below_drew1) | exact HB.out)) hbr); clear HB; have HB := HBn; clear HBn; have HMwn := Aside0.mk (below_step (by repeat (first | (with_reducible first | exact HMw.out | apply below_alloc | apply pw_below_drewN | apply below_drew1) | exact HMw.out)) hbr); clear HMw; have HMw := HMwn; clear HMwn; have HE3n := Aside0.mk (below_step (by repeat (first | (with_reducible first | exact HE3.out | apply below_alloc | apply pw_below_drewN | apply below_drew1) | exact HE3.out)) hbr); clear HE3; have HE3 := HE3n; clear HE3n; clear hbr) | (go_at_call 3; (with_reducible refine (PredRuns.calls _ ?t0 ?t1).mono ?_); (case t0 => exact Val.tb HTAB (by repeat (first | (with_reducible first | exact HB.out | apply below_alloc | apply pw_below_drewN | apply below_drew1) | exact HB.out))); (case t1 => exact ⟨Er.Typ.below (by repeat (first | (with_reducible first | exact HB.out | apply below_alloc | apply pw_below_drewN | apply below_drew1) | exact HB.out)) HTYP.out⟩); rintro e wr ⟨rfl, hbr⟩; have HBn := Aside0.mk (below_step (by repeat (first | (with_reducible first | exact HB.out | apply below_alloc | apply pw_below_drewN | apply below_drew1) | exact HB.out)) hbr); clear HB; have HB := HBn; clear HBn; have HMwn := Aside0.mk (below_step (by repeat (first | (with_reducible first | exact HMw.out | apply below_alloc | apply pw_below_drewN | apply below_drew1) | exact HMw.out)) hbr); clear HMw; have HMw := HMwn; clear HMwn; have HE3n := Aside0.mk (below_step (by repeat (first | (with_reducible first | exact HE3.out | apply below_alloc | apply pw_below_drewN | apply below_drew1) | exact HE3.out)) hbr); clear HE3; have HE3 := HE3n; clear HE3n; clear hbr))
        go_ret
        exact ⟨by first | rfl | simp, HB.out⟩
theorem Limits.calls (n at_ lo hi : Int) (w : World) (HTAB : Aside0 (Val.Tab w)) (HTYP : Aside0 (Er.Typ w)) (hlo : -9223372036854775808 ≤ lo ∧ lo ≤ 9223372036854775807) (hhi : -9223372036854775808 ≤ hi ∧ hi ≤ 9223372036854775807) :
    Calls Tryz.prog 7 #[.int .i64 n, .int .i64 at_, .int .i64 lo, .int .i64 hi] w fun e w' => e = .returned (.bool true) ∧ Below w.heap.size w w' := by
  have k0 : 0 ≤ n % (7 + 1) := Int.emod_nonneg _ (by omega)
  have k1 : n % (7 + 1) < 7 + 1 := Int.emod_lt_of_pos _ (by omega)
  have c0 : 0 ≤ at_ % (4 + 1) := Int.emod_nonneg _ (by omega)
  have c1 : at_ % (4 + 1) < 4 + 1 := Int.emod_lt_of_pos _ (by omega)
  obtain ⟨a, ha⟩ : ∃ a, (if hi < lo then hi else lo) = a := ⟨_, rfl⟩
  obtain ⟨b, hb⟩ : ∃ b, (if lo < hi then hi else lo) = b := ⟨_, rfl⟩
  have hab : a ≤ b := by rw [← ha, ← hb]; split <;> split <;> omega
  have hal : -9223372036854775808 ≤ a := by rw [← ha]; split <;> omega
  have hbl : b ≤ 9223372036854775807 := by rw [← hb]; split <;> omega
  have hz : tuple_Name.f 30 (⟨#[122]⟩ : ByteArray) = some true := by kernel_rfl
  have hH : ∀ x : Int, a ≤ x → x ≤ b → pred_Holds.f (⟨#[122]⟩ : ByteArray) 1 a b (⟨#[]⟩ : ByteArray) false x (⟨#[]⟩ : ByteArray) = some true := fun x h1 h2 => by
    rw [holds_g]
    simp [H1, h1, h2]
  refine Limits.walk n at_ lo hi (n % (7 + 1)).toNat (at_ % (4 + 1)).toNat a b (a == b) w HTAB HTYP (by omega) (by omega) ?_ ?_ (by rw [min2_int, ha]) (by rw [max2_int, hb]) rfl (rz_make a b hab hal hbl) (hH a (by omega) hab) (hH b hab (by omega)) ?_
  · rw [fo_within _ _ (by omega) (by omega), Int.toNat_of_nonneg k0]
  · rw [fo_within _ _ (by omega) (by omega), Int.toNat_of_nonneg c0]
  · unfold pred_RightOne.f
    rw [hz]
    have e : (decide (b ≤ a)) = (a == b) := by rw [Bool.eq_iff_iff, decide_eq_true_eq, beq_iff_eq]; omega
    by_cases h : b ≤ a
    · simp only [Option.bind_some, if_true]
      rw [if_pos h, ← e, decide_eq_true h]
      simp
    · simp only [Option.bind_some, if_true]
      rw [if_neg h, ← e, decide_eq_false h]

end Go.Proofs.YtfabnapjbgamaaaGreatDoor.MPred
