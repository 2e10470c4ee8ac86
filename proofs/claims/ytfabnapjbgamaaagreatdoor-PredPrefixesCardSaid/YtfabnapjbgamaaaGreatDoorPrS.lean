import Derived.Test.YtfabnapjbgamaaaGreatDoorPrJ
import Derived.Test.YtfabnapjbgamaaaGreatDoorPrR
import Derived.Test.YtfabnapjbgamaaaGreatDoorRg
namespace Go.Proofs.YtfabnapjbgamaaaGreatDoor.MPred
open Go.RowKit Go.Lib Go.Proofs.YtfabnapjbgamaaaGreatDoorW.PrintWords Go.Proofs.YtfabnapjbgamaaaGreatDoorW.PrintLast Go.Proofs.YtfabnapjbgamaaaGreatDoorW.PrintMore
set_option linter.unusedVariables false
set_option linter.unusedSimpArgs false
attribute [local go_sem] max_two min_two
attribute [local go_sem high] eqA23
/-- A call of a function value in a drawn region. -/
theorem goesV_ {P : Program} {ops : Array Oper} {Q : Exit → Act → World → Prop} {oi : Oper} {N : Option Tmp} {a : Act} {w : World} {K : Act → World → Prop} {f : FuncId} {fn : Func} {c : Operand} {os_ : Array Operand} {ts : Array TypeId} (hf : P.funcs[f]? = some fn) (hname : (fn.name == "runtime.NumGoroutine") = false) (hb : fn.body.isSome = true) (args : Array Value)
    (hw : Region.wanted oi (yielded ops a.tmps) = true) (hN : oi.dst = N) (hop : oi.op = .call { callee := .value c, args := os_, argTypes := ts }) (hc : a.eval c = .func (.func f) #[] #[]) (hargs : os_.map a.eval = args)
    (h : Calls P f args w fun e w' => ∃ v, e = .returned v ∧ K (a.put N v) w') : if Region.wanted oi (yielded ops a.tmps) = true then Oper.wp P oi a w K Q else K (a.put N undef) w := by
  refine call_ f args hw hN ?_ h
  have he := enters_ hf hname hb args w
  unfold execOp
  simp [hop, resolve, Deferred.ofValue, invoke, hc, hargs, he]

/-! ### PredPrefixes: function 4 -/
theorem p13 (s : ByteArray) (w : World) : Calls Tryz.prog 13 #[.string s] w fun e w' => e = .returned (.agg #[.string (⟨#[97]⟩ : ByteArray), .int .i64 3, .int .i64 0, .int .i64 0, .string s]) ∧ Below w.heap.size w w' := by
  have hu23 := Tryz.underlying23
  go_enter Tryz.func13, Tryz.ntmps13
  go_wp2
  refine bodyPost_ret (v := .agg #[.string (⟨#[97]⟩ : ByteArray), .int .i64 3, .int .i64 0, .int .i64 0, .string s]) (by simp [results, Tryz.results13, go_sem]) rfl ⟨rfl, below_alloc (Below.refl _ _) _⟩
theorem toList_inj' {a c : ByteArray} (h : a.toList = c.toList) : a = c := by
  apply ba_ext
  rw [ByteArray.toList_eq, ByteArray.toList_eq] at h
  exact h
theorem cutS (K : Nat) (s : ByteArray) : ∃ (m : Int) (S : ByteArray), Builtin.min2 (.int .i64 (s.size : Int)) (.int .i64 (K : Int)) = pure (.int .i64 m) ∧ (S.size ≤ K) ∧ ∀ w, (Instr.slice 9 (.string s) none (some (.int .i64 m)) none).run Tryz.prog w = .ok (.string S) w := by
  obtain ⟨m, hm⟩ : ∃ m : Int, (if (K : Int) < (s.size : Int) then (K : Int) else (s.size : Int)) = m := ⟨_, rfl⟩
  have hm0 : 0 ≤ m := by rw [← hm]; split <;> omega
  have hm2 : m ≤ (s.size : Int) := by rw [← hm]; split <;> omega
  have hm3 : m ≤ (K : Int) := by rw [← hm]; split <;> omega
  refine ⟨m, s.extract 0 m.toNat, by rw [min2_int, hm], by simp; omega, fun w => ?_⟩
  have hm0c := decide_eq_true hm0
  have hm2c := decide_eq_true hm2
  have hm0b := eq_true hm0
  have hm2b := eq_true hm2
  go_simp
theorem run_add (a c : ByteArray) (h : a.size + c.size ≤ 100) (w : World) : (binOp .add 9 (.string a) (.string c)).run Tryz.prog w = .ok (.string (a ++ c)) w := by
  have h1 : (a.size + c.size ≤ 9223372036854775807) = True := eq_true (by omega)
  have h2 : (9223372036854775807 < a.size + c.size) = False := eq_false (by omega)
  go_simp
theorem eqP (s : ByteArray) (w : World) : (binOp .eql 23 (.agg #[.string (⟨#[97]⟩ : ByteArray), .int .i64 3, .int .i64 0, .int .i64 0, .string s]) (.agg #[.string (⟨#[97]⟩ : ByteArray), .int .i64 3, .int .i64 0, .int .i64 0, .string s])).run Tryz.prog w = .ok (.bool true) w := by
  have h := eqA23 9998 w (⟨#[97]⟩ : ByteArray) (⟨#[97]⟩ : ByteArray) 3 3 0 0 0 0 s s
  simp at h
  simp only [binOp]
  simp [Op.equal, Op.maxDepth, h]
noncomputable def pre9 : Array Oper := opsOf Tryz.f4 9
noncomputable def pre9t : List Rg.Ent := [⟨0, 0, some 92, none, Op.move (Operand.tmp 11)⟩,
  ⟨1, 1, some 93, none, Op.move (Operand.tmp 92)⟩,
  ⟨2, 2, some 94, some (93, true), Op.move (Operand.tmp 13)⟩,
  ⟨6, 6, some 95, none, Op.pick (Operand.tmp 93) (Operand.tmp 94) (Operand.const (Value.bool false))⟩,
  ⟨10, 8, some 96, none, Op.move (Operand.tmp 95)⟩,
  ⟨16, 16, some 97, some (96, true), Op.load 23 (Operand.tmp 10)⟩,
  ⟨16, 16, some 98, some (96, true), Op.move (Operand.tmp 9)⟩,
  ⟨16, 16, some 99, some (96, true), Op.move (Operand.tmp 7)⟩,
  ⟨16, 16, some 100, some (96, true), Op.move (Operand.tmp 8)⟩,
  ⟨400, 400, some 101, some (96, true), Op.binOp BinOp.add 9 (Operand.tmp 99) (Operand.tmp 100) 9⟩,
  ⟨592, 592, some 102, some (96, true), Op.call { callee := Callee.value (Operand.tmp 98), args := #[Operand.tmp 101], argTypes := #[9] }⟩,
  ⟨1072, 1072, some 103, some (96, true), Op.binOp BinOp.eql 23 (Operand.tmp 97) (Operand.tmp 102) 23⟩,
  ⟨2064, 2064, some 104, none, Op.pick (Operand.tmp 96) (Operand.tmp 103) (Operand.const (Value.bool false))⟩,
  ⟨5120, 4096, some 105, none, Op.move (Operand.tmp 104)⟩,
  ⟨8192, 8192, some 106, some (105, true), Op.load 23 (Operand.tmp 12)⟩,
  ⟨8192, 8192, some 107, some (105, true), Op.load 23 (Operand.tmp 10)⟩,
  ⟨57344, 57344, some 108, some (105, true), Op.binOp BinOp.eql 23 (Operand.tmp 106) (Operand.tmp 107) 23⟩,
  ⟨73728, 73728, some 109, none, Op.pick (Operand.tmp 105) (Operand.tmp 108) (Operand.const (Value.bool false))⟩,
  ⟨139264, 131072, some 110, none, Op.move (Operand.tmp 109)⟩,
  ⟨262144, 262144, some 111, some (110, true), Op.move (Operand.tmp 15)⟩,
  ⟨786432, 786432, some 112, none, Op.pick (Operand.tmp 110) (Operand.tmp 111) (Operand.const (Value.bool false))⟩,
  ⟨1310720, 1048576, some 113, none, Op.move (Operand.tmp 112)⟩,
  ⟨2097152, 2097152, some 114, some (113, true), Op.fieldAddr 23 (Operand.tmp 14) 1⟩,
  ⟨6291456, 6291456, some 115, some (113, true), Op.load 3 (Operand.tmp 114)⟩,
  ⟨10485760, 10485760, some 116, some (113, true), Op.binOp BinOp.eql 3 (Operand.tmp 115) (Operand.const (Value.int IntKind.i64 2)) 3⟩,
  ⟨18874368, 18874368, some 117, none, Op.pick (Operand.tmp 113) (Operand.tmp 116) (Operand.const (Value.bool false))⟩,
  ⟨35651584, 33554432, some 118, none, Op.move (Operand.tmp 117)⟩,
  ⟨67108864, 67108864, some 119, some (118, true), Op.fieldAddr 23 (Operand.tmp 14) 4⟩,
  ⟨201326592, 201326592, some 120, some (118, true), Op.load 9 (Operand.tmp 119)⟩,
  ⟨67108864, 67108864, some 121, some (118, true), Op.move (Operand.tmp 7)⟩,
  ⟨67108864, 67108864, some 122, some (118, true), Op.move (Operand.tmp 8)⟩,
  ⟨1677721600, 1677721600, some 123, some (118, true), Op.binOp BinOp.add 9 (Operand.tmp 121) (Operand.tmp 122) 9⟩,
  ⟨2483027968, 2483027968, some 124, some (118, true), Op.binOp BinOp.eql 9 (Operand.tmp 120) (Operand.tmp 123) 9⟩,
  ⟨4362076160, 4362076160, some 125, none, Op.pick (Operand.tmp 118) (Operand.tmp 124) (Operand.const (Value.bool false))⟩,
  ⟨8657043456, 8589934592, some 126, none, Op.move (Operand.tmp 125)⟩,
  ⟨17179869184, 17179869184, some 127, some (126, true), Op.move (Operand.tmp 17)⟩,
  ⟨51539607552, 51539607552, some 128, some (126, true), Op.unOp UnOp.not 4 (Operand.tmp 127)⟩,
  ⟨85899345920, 85899345920, some 129, none, Op.pick (Operand.tmp 126) (Operand.tmp 128) (Operand.const (Value.bool false))⟩,
  ⟨154618822656, 137438953472, some 130, none, Op.move (Operand.tmp 129)⟩,
  ⟨274877906944, 274877906944, some 131, some (130, true), Op.move (Operand.tmp 19)⟩,
  ⟨824633720832, 824633720832, some 132, some (130, true), Op.unOp UnOp.not 4 (Operand.tmp 131)⟩,
  ⟨1374389534720, 1374389534720, some 133, none, Op.pick (Operand.tmp 130) (Operand.tmp 132) (Operand.const (Value.bool false))⟩,
  ⟨2473901162496, 2199023255552, some 134, none, Op.move (Operand.tmp 133)⟩,
  ⟨4398046511104, 4398046511104, some 135, some (134, true), Op.move (Operand.tmp 9)⟩,
  ⟨4398046511104, 4398046511104, some 136, some (134, true), Op.move (Operand.tmp 7)⟩,
  ⟨30786325577728, 30786325577728, some 137, some (134, true), Op.call { callee := Callee.value (Operand.tmp 135), args := #[Operand.tmp 136], argTypes := #[9] }⟩,
  ⟨4398046511104, 4398046511104, some 138, some (134, true), Op.load 39 (Operand.tmp 20)⟩,
  ⟨109951162777600, 109951162777600, some 139, some (134, true), Op.call { callee := Callee.value (Operand.func 15), args := #[Operand.tmp 137, Operand.tmp 138], argTypes := #[23, 39] }⟩,
  ⟨145135534866432, 145135534866432, some 140, none, Op.pick (Operand.tmp 134) (Operand.tmp 139) (Operand.const (Value.bool false))⟩,
  ⟨422212465065984, 281474976710656, some 141, none, Op.move (Operand.tmp 140)⟩,
  ⟨562949953421312, 562949953421312, some 142, some (141, true), Op.move (Operand.tmp 9)⟩,
  ⟨1688849860263936, 1688849860263936, some 143, some (141, true), Op.call { callee := Callee.value (Operand.tmp 142), args := #[Operand.const (Value.string { data := #[] })], argTypes := #[9] }⟩,
  ⟨562949953421312, 562949953421312, some 144, some (141, true), Op.load 39 (Operand.tmp 20)⟩,
  ⟨7318349394477056, 7318349394477056, some 145, some (141, true), Op.call { callee := Callee.value (Operand.func 15), args := #[Operand.tmp 143, Operand.tmp 144], argTypes := #[23, 39] }⟩,
  ⟨9570149208162304, 9570149208162304, some 146, none, Op.pick (Operand.tmp 141) (Operand.tmp 145) (Operand.const (Value.bool false))⟩,
  ⟨27021597764222976, 18014398509481984, some 147, none, Op.move (Operand.tmp 146)⟩,
  ⟨36028797018963968, 36028797018963968, some 148, some (147, true), Op.move (Operand.tmp 9)⟩,
  ⟨108086391056891904, 108086391056891904, some 149, some (147, true), Op.call { callee := Callee.value (Operand.tmp 148), args := #[Operand.const (Value.string { data := #[] })], argTypes := #[9] }⟩,
  ⟨36028797018963968, 36028797018963968, some 150, some (147, true), Op.move (Operand.tmp 2)⟩,
  ⟨324259173170675712, 324259173170675712, some 151, some (147, true), Op.build 39 #[(1, Operand.tmp 150)]⟩,
  ⟨756604737398243328, 756604737398243328, some 152, some (147, true), Op.call { callee := Callee.value (Operand.func 15), args := #[Operand.tmp 149, Operand.tmp 151], argTypes := #[23, 39] }⟩,
  ⟨1188950301625810944, 1188950301625810944, some 153, some (147, true), Op.unOp UnOp.not 4 (Operand.tmp 152)⟩,
  ⟨2341871806232657920, 2341871806232657920, some 154, none, Op.pick (Operand.tmp 147) (Operand.tmp 153) (Operand.const (Value.bool false))⟩,
  ⟨5764607523034234880, 4611686018427387904, some 155, none, Op.move (Operand.tmp 154)⟩,
  ⟨9223372036854775808, 9223372036854775808, some 156, some (155, true), Op.move (Operand.tmp 9)⟩,
  ⟨9223372036854775808, 9223372036854775808, some 157, some (155, true), Op.move (Operand.tmp 7)⟩,
  ⟨9223372036854775808, 9223372036854775808, some 158, some (155, true), Op.move (Operand.tmp 8)⟩,
  ⟨119903836479112085504, 119903836479112085504, some 159, some (155, true), Op.binOp BinOp.add 9 (Operand.tmp 157) (Operand.tmp 158) 9⟩,
  ⟨156797324626531188736, 156797324626531188736, some 160, some (155, true), Op.binOp BinOp.add 9 (Operand.tmp 159) (Operand.const (Value.string { data := #[113] })) 9⟩,
  ⟨322818021289917153280, 322818021289917153280, some 161, some (155, true), Op.call { callee := Callee.value (Operand.tmp 156), args := #[Operand.tmp 160], argTypes := #[9] }⟩,
  ⟨9223372036854775808, 9223372036854775808, some 162, some (155, true), Op.load 39 (Operand.tmp 20)⟩,
  ⟨1780110803112971730944, 1780110803112971730944, some 163, some (155, true), Op.call { callee := Callee.value (Operand.func 15), args := #[Operand.tmp 161, Operand.tmp 162], argTypes := #[23, 39] }⟩,
  ⟨2370406613471677382656, 2370406613471677382656, some 164, some (155, true), Op.unOp UnOp.not 4 (Operand.tmp 163)⟩,
  ⟨4731589854906499989504, 4731589854906499989504, some 165, none, Op.pick (Operand.tmp 155) (Operand.tmp 164) (Operand.const (Value.bool false))⟩,
  ⟨11805916207174113034240, 9444732965739290427392, some 166, none, Op.move (Operand.tmp 165)⟩,
  ⟨18889465931478580854784, 18889465931478580854784, some 167, some (166, true), Op.move (Operand.tmp 9)⟩,
  ⟨56668397794435742564352, 56668397794435742564352, some 168, some (166, true), Op.call { callee := Callee.value (Operand.tmp 167), args := #[Operand.const (Value.string { data := #[97, 98, 99, 100, 101, 102, 103, 104, 105, 106, 107, 108] })], argTypes := #[9] }⟩,
  ⟨94447329657392904273920, 94447329657392904273920, some 169, some (166, true), Op.call { callee := Callee.value (Operand.func 16), args := #[Operand.tmp 168], argTypes := #[23] }⟩,
  ⟨170005193383307227693056, 170005193383307227693056, some 170, some (166, true), Op.unOp UnOp.not 4 (Operand.tmp 169)⟩,
  ⟨321120920835135874531328, 321120920835135874531328, some 171, none, Op.pick (Operand.tmp 166) (Operand.tmp 170) (Operand.const (Value.bool false))⟩,
  ⟨755578637259143234191360, 604462909807314587353088, some 172, none, Op.move (Operand.tmp 171)⟩,
  ⟨1208925819614629174706176, 1208925819614629174706176, some 173, some (172, true), Op.move (Operand.tmp 9)⟩,
  ⟨3626777458843887524118528, 3626777458843887524118528, some 174, some (172, true), Op.call { callee := Callee.value (Operand.tmp 173), args := #[Operand.const (Value.string { data := #[97, 98, 99, 100, 101, 102, 103, 104, 105, 106, 107] })], argTypes := #[9] }⟩,
  ⟨6044629098073145873530880, 6044629098073145873530880, some 175, some (172, true), Op.call { callee := Callee.value (Operand.func 16), args := #[Operand.tmp 174], argTypes := #[23] }⟩,
  ⟨10880332376531662572355584, 10880332376531662572355584, some 176, none, Op.pick (Operand.tmp 172) (Operand.tmp 175) (Operand.const (Value.bool false))⟩,
  ⟨29014219670751100192948224, 19342813113834066795298816, some 177, none, Op.move (Operand.tmp 176)⟩,
  ⟨38685626227668133590597632, 38685626227668133590597632, some 178, some (177, true), Op.call { callee := Callee.value (Operand.func 3), args := #[], argTypes := #[] }⟩,
  ⟨116056878683004400771792896, 116056878683004400771792896, some 179, none, Op.pick (Operand.tmp 177) (Operand.tmp 178) (Operand.const (Value.bool false))⟩,
  ⟨309485009821345068724781055, 154742504910672534362390528, some 6, none, Op.assign (Operand.tmp 179)⟩]
theorem pre9T : Rg.Tabd .any pre9 89 pre9t := ⟨by kernel_rfl, by kernel_rfl, by kernel_rfl⟩
set_option maxHeartbeats 8000000 in
set_option maxRecDepth 1000000 in
theorem Prefixes.walk (s t A B : ByteArray) (n ma mb : Int) (w : World) (HTAB : Aside0 (Val.Tab w)) (HTYP : Aside0 (Er.Typ w))
    (hsA : A.size ≤ 6) (hsB : B.size ≤ 5)
    (hma : Builtin.min2 (.int .i64 (s.size : Int)) (.int .i64 6) = pure (.int .i64 ma)) (hca : ∀ w, (Instr.slice 9 (.string s) none (some (.int .i64 ma)) none).run Tryz.prog w = .ok (.string A) w)
    (hmb : Builtin.min2 (.int .i64 (t.size : Int)) (.int .i64 5) = pure (.int .i64 mb)) (hcb : ∀ w, (Instr.slice 9 (.string t) none (some (.int .i64 mb)) none).run Tryz.prog w = .ok (.string B) w)
    (hB1 : pred_Both.f (⟨#[97]⟩ : ByteArray) 3 0 0 A (⟨#[97]⟩ : ByteArray) 3 0 0 (A ++ B) = some ((⟨#[97]⟩ : ByteArray), 3, 0, 0, (A ++ B), true)) (hB2 : pred_Both.f (⟨#[97]⟩ : ByteArray) 3 0 0 (A ++ B) (⟨#[97]⟩ : ByteArray) 3 0 0 A = some ((⟨#[97]⟩ : ByteArray), 3, 0, 0, (A ++ B), true))
    (hB3 : pred_Both.f (⟨#[97]⟩ : ByteArray) 3 0 0 A (⟨#[97]⟩ : ByteArray) 2 0 0 (A ++ B) = some ((⟨#[97]⟩ : ByteArray), 2, 0, 0, (A ++ B), true)) (hB4 : pred_Both.f (⟨#[97]⟩ : ByteArray) 3 0 0 A (⟨#[97]⟩ : ByteArray) 1 n n (⟨#[]⟩ : ByteArray) = some ((⟨#[]⟩ : ByteArray), 0, 0, 0, (⟨#[]⟩ : ByteArray), false))
    (hB5 : pred_Both.f (⟨#[97]⟩ : ByteArray) 3 0 0 (A ++ (⟨#[120]⟩ : ByteArray)) (⟨#[97]⟩ : ByteArray) 3 0 0 (A ++ (⟨#[121]⟩ : ByteArray)) = some ((⟨#[]⟩ : ByteArray), 0, 0, 0, (⟨#[]⟩ : ByteArray), false))
    (hH1 : pred_Holds.f (⟨#[97]⟩ : ByteArray) 3 0 0 A true 0 (A ++ B) = some true) (hH2 : pred_Holds.f (⟨#[97]⟩ : ByteArray) 3 0 0 (⟨#[]⟩ : ByteArray) true 0 (A ++ B) = some true) (hH3 : pred_Holds.f (⟨#[97]⟩ : ByteArray) 3 0 0 (⟨#[]⟩ : ByteArray) false n (⟨#[]⟩ : ByteArray) = some false) (hH4 : pred_Holds.f (⟨#[97]⟩ : ByteArray) 3 0 0 (A ++ B ++ (⟨#[113]⟩ : ByteArray)) true 0 (A ++ B) = some false)
    (hR1 : pred_RightOne.f 30 (⟨#[97]⟩ : ByteArray) 3 0 0 (⟨#[97, 98, 99, 100, 101, 102, 103, 104, 105, 106, 107, 108]⟩ : ByteArray) = some false) (hR2 : pred_RightOne.f 30 (⟨#[97]⟩ : ByteArray) 3 0 0 (⟨#[97, 98, 99, 100, 101, 102, 103, 104, 105, 106, 107]⟩ : ByteArray) = some true) :
    Calls Tryz.prog 4 #[.string s, .string t, .int .i64 n] w fun e w' => e = .returned (.bool true) ∧ Below w.heap.size w w' := by
  have hu23 := Tryz.underlying23
  have hu39 := Tryz.underlying39
  have hu9 := Tryz.underlying9
  have k1 := eqP (A ++ B)
  have HB := Aside0.mk (Below.refl w.heap.size w)
  have B1 := Aside0.mk hB1
  have B2 := Aside0.mk hB2
  have B3 := Aside0.mk hB3
  have B4 := Aside0.mk hB4
  have B5 := Aside0.mk hB5
  have H1_ := Aside0.mk hH1
  have H2_ := Aside0.mk hH2
  have H3_ := Aside0.mk hH3
  have H4_ := Aside0.mk hH4
  have R1_ := Aside0.mk hR1
  have R2_ := Aside0.mk hR2
  have hz1 : (9223372036854775807 < A.size + B.size) = False := eq_false (by omega)
  have hz2 : (9223372036854775807 < A.size + 1) = False := eq_false (by omega)
  have hz3 : (9223372036854775807 < A.size + B.size + 1) = False := eq_false (by omega)
  have hsAB : Aside0 ((A ++ B).size ≤ 11) := ⟨by rw [ByteArray.size_append]; omega⟩
  clear hB1 hB2 hB3 hB4 hB5 hH1 hH2 hH3 hH4 hR1 hR2
  go_enter Tryz.func4, Tryz.ntmps4
  go_wp2
  go_quiet (fail)
  clear hca hcb hma hmb
  go_upto_region 4 with (first | (go_at_call 13; (with_reducible refine (p13 _ _).mono ?_); rintro e wr ⟨rfl, hbr⟩; have HBn := Aside0.mk (below_step (by repeat (first | (with_reducible first | exact HB.out | apply below_alloc | apply pw_below_drewN | apply below_drew1) | exact HB.out)) hbr); clear HB; have HB := HBn; clear HBn; clear hbr) | (go_at_call 14; (with_reducible refine (pred_Both.calls _ _ _ _ _ _ _ _ _ _ _ _ _ _ _ _ _ B1.out).mono ?_); rintro e wr ⟨rfl, hbr⟩; have HBn := Aside0.mk (below_step (by repeat (first | (with_reducible first | exact HB.out | apply below_alloc | apply pw_below_drewN | apply below_drew1) | exact HB.out)) hbr); clear HB; have HB := HBn; clear HBn; clear hbr) | (go_at_call 14; (with_reducible refine (pred_Both.calls _ _ _ _ _ _ _ _ _ _ _ _ _ _ _ _ _ B2.out).mono ?_); rintro e wr ⟨rfl, hbr⟩; have HBn := Aside0.mk (below_step (by repeat (first | (with_reducible first | exact HB.out | apply below_alloc | apply pw_below_drewN | apply below_drew1) | exact HB.out)) hbr); clear HB; have HB := HBn; clear HBn; clear hbr) | (go_at_call 14; (with_reducible refine (pred_Both.calls _ _ _ _ _ _ _ _ _ _ _ _ _ _ _ _ _ B3.out).mono ?_); rintro e wr ⟨rfl, hbr⟩; have HBn := Aside0.mk (below_step (by repeat (first | (with_reducible first | exact HB.out | apply below_alloc | apply pw_below_drewN | apply below_drew1) | exact HB.out)) hbr); clear HB; have HB := HBn; clear HBn; clear hbr) | (go_at_call 14; (with_reducible refine (pred_Both.calls _ _ _ _ _ _ _ _ _ _ _ _ _ _ _ _ _ B4.out).mono ?_); rintro e wr ⟨rfl, hbr⟩; have HBn := Aside0.mk (below_step (by repeat (first | (with_reducible first | exact HB.out | apply below_alloc | apply pw_below_drewN | apply below_drew1) | exact HB.out)) hbr); clear HB; have HB := HBn; clear HBn; clear hbr) | (go_at_call 14; (with_reducible refine (pred_Both.calls _ _ _ _ _ _ _ _ _ _ _ _ _ _ _ _ _ B5.out).mono ?_); rintro e wr ⟨rfl, hbr⟩; have HBn := Aside0.mk (below_step (by repeat (first | (with_reducible first | exact HB.out | apply below_alloc | apply pw_below_drewN | apply below_drew1) | exact HB.out)) hbr); clear HB; have HB := HBn; clear HBn; clear hbr))
  have hg10 : (wr.alloc (.cells #[.string (⟨#[97]⟩ : ByteArray), .int .i64 3, .int .i64 0, .int .i64 0, .string (A ++ B)] 23)).heap[wr.heap.size]? = some (.cells #[.string (⟨#[97]⟩ : ByteArray), .int .i64 3, .int .i64 0, .int .i64 0, .string (A ++ B)] 23 (0, 0)) := heap_alloc_new wr _
  have HBn := Aside0.mk (below_alloc HB.out (.cells #[.string (⟨#[97]⟩ : ByteArray), .int .i64 3, .int .i64 0, .int .i64 0, .string (A ++ B)] 23)); clear HB; have HB := HBn; clear HBn
  generalize wr.alloc (.cells #[.string (⟨#[97]⟩ : ByteArray), .int .i64 3, .int .i64 0, .int .i64 0, .string (A ++ B)] 23) = W4 at hg10 HB ⊢
  generalize wr.heap.size = g10 at hg10 ⊢
  have Kg10 := Aside0.mk hg10
  clear hg10
  have Hg10 := Aside0.mk (Below.refl W4.heap.size W4)
  go_upto_region 5 with (first | (go_at_call 13; (with_reducible refine (p13 _ _).mono ?_); rintro e wr ⟨rfl, hbr⟩; have HBn := Aside0.mk (below_step (by repeat (first | (with_reducible first | exact HB.out | apply below_alloc | apply pw_below_drewN | apply below_drew1) | exact HB.out)) hbr); clear HB; have HB := HBn; clear HBn; have Hg10n := Aside0.mk (below_step (by repeat (first | (with_reducible first | exact Hg10.out | apply below_alloc | apply pw_below_drewN | apply below_drew1) | exact Hg10.out)) hbr); clear Hg10; have Hg10 := Hg10n; clear Hg10n; clear hbr) | (go_at_call 14; (with_reducible refine (pred_Both.calls _ _ _ _ _ _ _ _ _ _ _ _ _ _ _ _ _ B1.out).mono ?_); rintro e wr ⟨rfl, hbr⟩; have HBn := Aside0.mk (below_step (by repeat (first | (with_reducible first | exact HB.out | apply below_alloc | apply pw_below_drewN | apply below_drew1) | exact HB.out)) hbr); clear HB; have HB := HBn; clear HBn; have Hg10n := Aside0.mk (below_step (by repeat (first | (with_reducible first | exact Hg10.out | apply below_alloc | apply pw_below_drewN | apply below_drew1) | exact Hg10.out)) hbr); clear Hg10; have Hg10 := Hg10n; clear Hg10n; clear hbr) | (go_at_call 14; (with_reducible refine (pred_Both.calls _ _ _ _ _ _ _ _ _ _ _ _ _ _ _ _ _ B2.out).mono ?_); rintro e wr ⟨rfl, hbr⟩; have HBn := Aside0.mk (below_step (by repeat (first | (with_reducible first | exact HB.out | apply below_alloc | apply pw_below_drewN | apply below_drew1) | exact HB.out)) hbr); clear HB; have HB := HBn; clear HBn; have Hg10n := Aside0.mk (below_step (by repeat (first | (with_reducible first | exact Hg10.out | apply below_alloc | apply pw_below_drewN | apply below_drew1) | exact Hg10.out)) hbr); clear Hg10; have Hg10 := Hg10n; clear Hg10n; clear hbr) | (go_at_call 14; (with_reducible refine (pred_Both.calls _ _ _ _ _ _ _ _ _ _ _ _ _ _ _ _ _ B3.out).mono ?_); rintro e wr ⟨rfl, hbr⟩; have HBn := Aside0.mk (below_step (by repeat (first | (with_reducible first | exact HB.out | apply below_alloc | apply pw_below_drewN | apply below_drew1) | exact HB.out)) hbr); clear HB; have HB := HBn; clear HBn; have Hg10n := Aside0.mk (below_step (by repeat (first | (with_reducible first | exact Hg10.out | apply below_alloc | apply pw_below_drewN | apply below_drew1) | exact Hg10.out)) hbr); clear Hg10; have Hg10 := Hg10n; clear Hg10n; clear hbr) | (go_at_call 14; (with_reducible refine (pred_Both.calls _ _ _ _ _ _ _ _ _ _ _ _ _ _ _ _ _ B4.out).mono ?_); rintro e wr ⟨rfl, hbr⟩; have HBn := Aside0.mk (below_step (by repeat (first | (with_reducible first | exact HB.out | apply below_alloc | apply pw_below_drewN | apply below_drew1) | exact HB.out)) hbr); clear HB; have HB := HBn; clear HBn; have Hg10n := Aside0.mk (below_step (by repeat (first | (with_reducible first | exact Hg10.out | apply below_alloc | apply pw_below_drewN | apply below_drew1) | exact Hg10.out)) hbr); clear Hg10; have Hg10 := Hg10n; clear Hg10n; clear hbr) | (go_at_call 14; (with_reducible refine (pred_Both.calls _ _ _ _ _ _ _ _ _ _ _ _ _ _ _ _ _ B5.out).mono ?_); rintro e wr ⟨rfl, hbr⟩; have HBn := Aside0.mk (below_step (by repeat (first | (with_reducible first | exact HB.out | apply below_alloc | apply pw_below_drewN | apply below_drew1) | exact HB.out)) hbr); clear HB; have HB := HBn; clear HBn; have Hg10n := Aside0.mk (below_step (by repeat (first | (with_reducible first | exact Hg10.out | apply below_alloc | apply pw_below_drewN | apply below_drew1) | exact Hg10.out)) hbr); clear Hg10; have Hg10 := Hg10n; clear Hg10n; clear hbr))
  have hg12 : (wr.alloc (.cells #[.string (⟨#[97]⟩ : ByteArray), .int .i64 3, .int .i64 0, .int .i64 0, .string (A ++ B)] 23)).heap[wr.heap.size]? = some (.cells #[.string (⟨#[97]⟩ : ByteArray), .int .i64 3, .int .i64 0, .int .i64 0, .string (A ++ B)] 23 (0, 0)) := heap_alloc_new wr _
  have HBn := Aside0.mk (below_alloc HB.out (.cells #[.string (⟨#[97]⟩ : ByteArray), .int .i64 3, .int .i64 0, .int .i64 0, .string (A ++ B)] 23)); clear HB; have HB := HBn; clear HBn
  have Hg10n := Aside0.mk (below_alloc Hg10.out (.cells #[.string (⟨#[97]⟩ : ByteArray), .int .i64 3, .int .i64 0, .int .i64 0, .string (A ++ B)] 23)); clear Hg10; have Hg10 := Hg10n; clear Hg10n
  generalize wr.alloc (.cells #[.string (⟨#[97]⟩ : ByteArray), .int .i64 3, .int .i64 0, .int .i64 0, .string (A ++ B)] 23) = W5 at hg12 HB Hg10 ⊢
  generalize wr.heap.size = g12 at hg12 ⊢
  have Kg12 := Aside0.mk hg12
  clear hg12
  have Hg12 := Aside0.mk (Below.refl W5.heap.size W5)
  go_upto_region 6 with (first | (go_at_call 13; (with_reducible refine (p13 _ _).mono ?_); rintro e wr ⟨rfl, hbr⟩; have HBn := Aside0.mk (below_step (by repeat (first | (with_reducible first | exact HB.out | apply below_alloc | apply pw_below_drewN | apply below_drew1) | exact HB.out)) hbr); clear HB; have HB := HBn; clear HBn; have Hg10n := Aside0.mk (below_step (by repeat (first | (with_reducible first | exact Hg10.out | apply below_alloc | apply pw_below_drewN | apply below_drew1) | exact Hg10.out)) hbr); clear Hg10; have Hg10 := Hg10n; clear Hg10n; have Hg12n := Aside0.mk (below_step (by repeat (first | (with_reducible first | exact Hg12.out | apply below_alloc | apply pw_below_drewN | apply below_drew1) | exact Hg12.out)) hbr); clear Hg12; have Hg12 := Hg12n; clear Hg12n; clear hbr) | (go_at_call 14; (with_reducible refine (pred_Both.calls _ _ _ _ _ _ _ _ _ _ _ _ _ _ _ _ _ B1.out).mono ?_); rintro e wr ⟨rfl, hbr⟩; have HBn := Aside0.mk (below_step (by repeat (first | (with_reducible first | exact HB.out | apply below_alloc | apply pw_below_drewN | apply below_drew1) | exact HB.out)) hbr); clear HB; have HB := HBn; clear HBn; have Hg10n := Aside0.mk (below_step (by repeat (first | (with_reducible first | exact Hg10.out | apply below_alloc | apply pw_below_drewN | apply below_drew1) | exact Hg10.out)) hbr); clear Hg10; have Hg10 := Hg10n; clear Hg10n; have Hg12n := Aside0.mk (below_step (by repeat (first | (with_reducible first | exact Hg12.out | apply below_alloc | apply pw_below_drewN | apply below_drew1) | exact Hg12.out)) hbr); clear Hg12; have Hg12 := Hg12n; clear Hg12n; clear hbr) | (go_at_call 14; (with_reducible refine (pred_Both.calls _ _ _ _ _ _ _ _ _ _ _ _ _ _ _ _ _ B2.out).mono ?_); rintro e wr ⟨rfl, hbr⟩; have HBn := Aside0.mk (below_step (by repeat (first | (with_reducible first | exact HB.out | apply below_alloc | apply pw_below_drewN | apply below_drew1) | exact HB.out)) hbr); clear HB; have HB := HBn; clear HBn; have Hg10n := Aside0.mk (below_step (by repeat (first | (with_reducible first | exact Hg10.out | apply below_alloc | apply pw_below_drewN | apply below_drew1) | exact Hg10.out)) hbr); clear Hg10; have Hg10 := Hg10n; clear Hg10n; have Hg12n := Aside0.mk (below_step (by repeat (first | (with_reducible first | exact Hg12.out | apply below_alloc | apply pw_below_drewN | apply below_drew1) | exact Hg12.out)) hbr); clear Hg12; have Hg12 := Hg12n; clear Hg12n; clear hbr) | (go_at_call 14; (with_reducible refine (pred_Both.calls _ _ _ _ _ _ _ _ _ _ _ _ _ _ _ _ _ B3.out).mono ?_); rintro e wr ⟨rfl, hbr⟩; have HBn := Aside0.mk (below_step (by repeat (first | (with_reducible first | exact HB.out | apply below_alloc | apply pw_below_drewN | apply below_drew1) | exact HB.out)) hbr); clear HB; have HB := HBn; clear HBn; have Hg10n := Aside0.mk (below_step (by repeat (first | (with_reducible first | exact Hg10.out | apply below_alloc | apply pw_below_drewN | apply below_drew1) | exact Hg10.out)) hbr); clear Hg10; have Hg10 := Hg10n; clear Hg10n; have Hg12n := Aside0.mk (below_step (by repeat (first | (with_reducible first | exact Hg12.out | apply below_alloc | apply pw_below_drewN | apply below_drew1) | exact Hg12.out)) hbr); clear Hg12; have Hg12 := Hg12n; clear Hg12n; clear hbr) | (go_at_call 14; (with_reducible refine (pred_Both.calls _ _ _ _ _ _ _ _ _ _ _ _ _ _ _ _ _ B4.out).mono ?_); rintro e wr ⟨rfl, hbr⟩; have HBn := Aside0.mk (below_step (by repeat (first | (with_reducible first | exact HB.out | apply below_alloc | apply pw_below_drewN | apply below_drew1) | exact HB.out)) hbr); clear HB; have HB := HBn; clear HBn; have Hg10n := Aside0.mk (below_step (by repeat (first | (with_reducible first | exact Hg10.out | apply below_alloc | apply pw_below_drewN | apply below_drew1) | exact Hg10.out)) hbr); clear Hg10; have Hg10 := Hg10n; clear Hg10n; have Hg12n := Aside0.mk (below_step (by repeat (first | (with_reducible first | exact Hg12.out | apply below_alloc | apply pw_below_drewN | apply below_drew1) | exact Hg12.out)) hbr); clear Hg12; have Hg12 := Hg12n; clear Hg12n; clear hbr) | (go_at_call 14; (with_reducible refine (pred_Both.calls _ _ _ _ _ _ _ _ _ _ _ _ _ _ _ _ _ B5.out).mono ?_); rintro e wr ⟨rfl, hbr⟩; have HBn := Aside0.mk (below_step (by repeat (first | (with_reducible first | exact HB.out | apply below_alloc | apply pw_below_drewN | apply below_drew1) | exact HB.out)) hbr); clear HB; have HB := HBn; clear HBn; have Hg10n := Aside0.mk (below_step (by repeat (first | (with_reducible first | exact Hg10.out | apply below_alloc | apply pw_below_drewN | apply below_drew1) | exact Hg10.out)) hbr); clear Hg10; have Hg10 := Hg10n; clear Hg10n; have Hg12n := Aside0.mk (below_step (by repeat (first | (with_reducible first | exact Hg12.out | apply below_alloc | apply pw_below_drewN | apply below_drew1) | exact Hg12.out)) hbr); clear Hg12; have Hg12 := Hg12n; clear Hg12n; clear hbr))
  have hg14 : (wr.alloc (.cells #[.string (⟨#[97]⟩ : ByteArray), .int .i64 2, .int .i64 0, .int .i64 0, .string (A ++ B)] 23)).heap[wr.heap.size]? = some (.cells #[.string (⟨#[97]⟩ : ByteArray), .int .i64 2, .int .i64 0, .int .i64 0, .string (A ++ B)] 23 (0, 0)) := heap_alloc_new wr _
  have HBn := Aside0.mk (below_alloc HB.out (.cells #[.string (⟨#[97]⟩ : ByteArray), .int .i64 2, .int .i64 0, .int .i64 0, .string (A ++ B)] 23)); clear HB; have HB := HBn; clear HBn
  have Hg10n := Aside0.mk (below_alloc Hg10.out (.cells #[.string (⟨#[97]⟩ : ByteArray), .int .i64 2, .int .i64 0, .int .i64 0, .string (A ++ B)] 23)); clear Hg10; have Hg10 := Hg10n; clear Hg10n
  have Hg12n := Aside0.mk (below_alloc Hg12.out (.cells #[.string (⟨#[97]⟩ : ByteArray), .int .i64 2, .int .i64 0, .int .i64 0, .string (A ++ B)] 23)); clear Hg12; have Hg12 := Hg12n; clear Hg12n
  generalize wr.alloc (.cells #[.string (⟨#[97]⟩ : ByteArray), .int .i64 2, .int .i64 0, .int .i64 0, .string (A ++ B)] 23) = W6 at hg14 HB Hg10 Hg12 ⊢
  generalize wr.heap.size = g14 at hg14 ⊢
  have Kg14 := Aside0.mk hg14
  clear hg14
  have Hg14 := Aside0.mk (Below.refl W6.heap.size W6)
  go_upto_region 7 with (first | (go_at_call 13; (with_reducible refine (p13 _ _).mono ?_); rintro e wr ⟨rfl, hbr⟩; have HBn := Aside0.mk (below_step (by repeat (first | (with_reducible first | exact HB.out | apply below_alloc | apply pw_below_drewN | apply below_drew1) | exact HB.out)) hbr); clear HB; have HB := HBn; clear HBn; have Hg10n := Aside0.mk (below_step (by repeat (first | (with_reducible first | exact Hg10.out | apply below_alloc | apply pw_below_drewN | apply below_drew1) | exact Hg10.out)) hbr); clear Hg10; have Hg10 := Hg10n; clear Hg10n; have Hg12n := Aside0.mk (below_step (by repeat (first | (with_reducible first | exact Hg12.out | apply below_alloc | apply pw_below_drewN | apply below_drew1) | exact Hg12.out)) hbr); clear Hg12; have Hg12 := Hg12n; clear Hg12n; have Hg14n := Aside0.mk (below_step (by repeat (first | (with_reducible first | exact Hg14.out | apply below_alloc | apply pw_below_drewN | apply below_drew1) | exact Hg14.out)) hbr); clear Hg14; have Hg14 := Hg14n; clear Hg14n; clear hbr) | (go_at_call 14; (with_reducible refine (pred_Both.calls _ _ _ _ _ _ _ _ _ _ _ _ _ _ _ _ _ B1.out).mono ?_); rintro e wr ⟨rfl, hbr⟩; have HBn := Aside0.mk (below_step (by repeat (first | (with_reducible first | exact HB.out | apply below_alloc | apply pw_below_drewN | apply below_drew1) | exact HB.out)) hbr); clear HB; have HB := HBn; clear HBn; have Hg10n := Aside0.mk (below_step (by repeat (first | (with_reducible first | exact Hg10.out | apply below_alloc | apply pw_below_drewN | apply below_drew1) | exact Hg10.out)) hbr); clear Hg10; have Hg10 := Hg10n; clear Hg10n; have Hg12n := Aside0.mk (below_step (by repeat (first | (with_reducible first | exact Hg12.out | apply below_alloc | apply pw_below_drewN | apply below_drew1) | exact Hg12.out)) hbr); clear Hg12; have Hg12 := Hg12n; clear Hg12n; have Hg14n := Aside0.mk (below_step (by repeat (first | (with_reducible first | exact Hg14.out | apply below_alloc | apply pw_below_drewN | apply below_drew1) | exact Hg14.out)) hbr); clear Hg14; have Hg14 := Hg14n; clear Hg14n; clear hbr) | (go_at_call 14; (with_reducible refine (pred_Both.calls _ _ _ _ _ _ _ _ _ _ _ _ _ _ _ _ _ B2.out).mono ?_); rintro e wr ⟨rfl, hbr⟩; have HBn := Aside0.mk (below_step (by repeat (first | (with_reducible first | exact HB.out | apply below_alloc | apply pw_below_drewN | apply below_drew1) | exact HB.out)) hbr); clear HB; have HB := HBn; clear HBn; have Hg10n := Aside0.mk (below_step (by repeat (first | (with_reducible first | exact Hg10.out | apply below_alloc | apply pw_below_drewN | apply below_drew1) | exact Hg10.out)) hbr); clear Hg10; have Hg10 := Hg10n; clear Hg10n; have Hg12n := Aside0.mk (below_step (by repeat (first | (with_reducible first | exact Hg12.out | apply below_alloc | apply pw_below_drewN | apply below_drew1) | exact Hg12.out)) hbr); clear Hg12; have Hg12 := Hg12n; clear Hg12n; have Hg14n := Aside0.mk (below_step (by repeat (first | (with_reducible first | exact Hg14.out | apply below_alloc | apply pw_below_drewN | apply below_drew1) | exact Hg14.out)) hbr); clear Hg14; have Hg14 := Hg14n; clear Hg14n; clear hbr) | (go_at_call 14; (with_reducible refine (pred_Both.calls _ _ _ _ _ _ _ _ _ _ _ _ _ _ _ _ _ B3.out).mono ?_); rintro e wr ⟨rfl, hbr⟩; have HBn := Aside0.mk (below_step (by repeat (first | (with_reducible first | exact HB.out | apply below_alloc | apply pw_below_drewN | apply below_drew1) | exact HB.out)) hbr); clear HB; have HB := HBn; clear HBn; have Hg10n := Aside0.mk (below_step (by repeat (first | (with_reducible first | exact Hg10.out | apply below_alloc | apply pw_below_drewN | apply below_drew1) | exact Hg10.out)) hbr); clear Hg10; have Hg10 := Hg10n; clear Hg10n; have Hg12n := Aside0.mk (below_step (by repeat (first | (with_reducible first | exact Hg12.out | apply below_alloc | apply pw_below_drewN | apply below_drew1) | exact Hg12.out)) hbr); clear Hg12; have Hg12 := Hg12n; clear Hg12n; have Hg14n := Aside0.mk (below_step (by repeat (first | (with_reducible first | exact Hg14.out | apply below_alloc | apply pw_below_drewN | apply below_drew1) | exact Hg14.out)) hbr); clear Hg14; have Hg14 := Hg14n; clear Hg14n; clear hbr) | (go_at_call 14; (with_reducible refine (pred_Both.calls _ _ _ _ _ _ _ _ _ _ _ _ _ _ _ _ _ B4.out).mono ?_); rintro e wr ⟨rfl, hbr⟩; have HBn := Aside0.mk (below_step (by repeat (first | (with_reducible first | exact HB.out | apply below_alloc | apply pw_below_drewN | apply below_drew1) | exact HB.out)) hbr); clear HB; have HB := HBn; clear HBn; have Hg10n := Aside0.mk (below_step (by repeat (first | (with_reducible first | exact Hg10.out | apply below_alloc | apply pw_below_drewN | apply below_drew1) | exact Hg10.out)) hbr); clear Hg10; have Hg10 := Hg10n; clear Hg10n; have Hg12n := Aside0.mk (below_step (by repeat (first | (with_reducible first | exact Hg12.out | apply below_alloc | apply pw_below_drewN | apply below_drew1) | exact Hg12.out)) hbr); clear Hg12; have Hg12 := Hg12n; clear Hg12n; have Hg14n := Aside0.mk (below_step (by repeat (first | (with_reducible first | exact Hg14.out | apply below_alloc | apply pw_below_drewN | apply below_drew1) | exact Hg14.out)) hbr); clear Hg14; have Hg14 := Hg14n; clear Hg14n; clear hbr) | (go_at_call 14; (with_reducible refine (pred_Both.calls _ _ _ _ _ _ _ _ _ _ _ _ _ _ _ _ _ B5.out).mono ?_); rintro e wr ⟨rfl, hbr⟩; have HBn := Aside0.mk (below_step (by repeat (first | (with_reducible first | exact HB.out | apply below_alloc | apply pw_below_drewN | apply below_drew1) | exact HB.out)) hbr); clear HB; have HB := HBn; clear HBn; have Hg10n := Aside0.mk (below_step (by repeat (first | (with_reducible first | exact Hg10.out | apply below_alloc | apply pw_below_drewN | apply below_drew1) | exact Hg10.out)) hbr); clear Hg10; have Hg10 := Hg10n; clear Hg10n; have Hg12n := Aside0.mk (below_step (by repeat (first | (with_reducible first | exact Hg12.out | apply below_alloc | apply pw_below_drewN | apply below_drew1) | exact Hg12.out)) hbr); clear Hg12; have Hg12 := Hg12n; clear Hg12n; have Hg14n := Aside0.mk (below_step (by repeat (first | (with_reducible first | exact Hg14.out | apply below_alloc | apply pw_below_drewN | apply below_drew1) | exact Hg14.out)) hbr); clear Hg14; have Hg14 := Hg14n; clear Hg14n; clear hbr))
  have HBn := Aside0.mk (below_alloc HB.out (.cells #[.string (⟨#[]⟩ : ByteArray), .int .i64 0, .int .i64 0, .int .i64 0, .string (⟨#[]⟩ : ByteArray)] 23)); clear HB; have HB := HBn; clear HBn
  have Hg10n := Aside0.mk (below_alloc Hg10.out (.cells #[.string (⟨#[]⟩ : ByteArray), .int .i64 0, .int .i64 0, .int .i64 0, .string (⟨#[]⟩ : ByteArray)] 23)); clear Hg10; have Hg10 := Hg10n; clear Hg10n
  have Hg12n := Aside0.mk (below_alloc Hg12.out (.cells #[.string (⟨#[]⟩ : ByteArray), .int .i64 0, .int .i64 0, .int .i64 0, .string (⟨#[]⟩ : ByteArray)] 23)); clear Hg12; have Hg12 := Hg12n; clear Hg12n
  have Hg14n := Aside0.mk (below_alloc Hg14.out (.cells #[.string (⟨#[]⟩ : ByteArray), .int .i64 0, .int .i64 0, .int .i64 0, .string (⟨#[]⟩ : ByteArray)] 23)); clear Hg14; have Hg14 := Hg14n; clear Hg14n
  generalize wr.alloc (.cells #[.string (⟨#[]⟩ : ByteArray), .int .i64 0, .int .i64 0, .int .i64 0, .string (⟨#[]⟩ : ByteArray)] 23) = W7 at  HB Hg10 Hg12 Hg14 ⊢
  go_upto_region 8 with (first | (go_at_call 13; (with_reducible refine (p13 _ _).mono ?_); rintro e wr ⟨rfl, hbr⟩; have HBn := Aside0.mk (below_step (by repeat (first | (with_reducible first | exact HB.out | apply below_alloc | apply pw_below_drewN | apply below_drew1) | exact HB.out)) hbr); clear HB; have HB := HBn; clear HBn; have Hg10n := Aside0.mk (below_step (by repeat (first | (with_reducible first | exact Hg10.out | apply below_alloc | apply pw_below_drewN | apply below_drew1) | exact Hg10.out)) hbr); clear Hg10; have Hg10 := Hg10n; clear Hg10n; have Hg12n := Aside0.mk (below_step (by repeat (first | (with_reducible first | exact Hg12.out | apply below_alloc | apply pw_below_drewN | apply below_drew1) | exact Hg12.out)) hbr); clear Hg12; have Hg12 := Hg12n; clear Hg12n; have Hg14n := Aside0.mk (below_step (by repeat (first | (with_reducible first | exact Hg14.out | apply below_alloc | apply pw_below_drewN | apply below_drew1) | exact Hg14.out)) hbr); clear Hg14; have Hg14 := Hg14n; clear Hg14n; clear hbr) | (go_at_call 14; (with_reducible refine (pred_Both.calls _ _ _ _ _ _ _ _ _ _ _ _ _ _ _ _ _ B1.out).mono ?_); rintro e wr ⟨rfl, hbr⟩; have HBn := Aside0.mk (below_step (by repeat (first | (with_reducible first | exact HB.out | apply below_alloc | apply pw_below_drewN | apply below_drew1) | exact HB.out)) hbr); clear HB; have HB := HBn; clear HBn; have Hg10n := Aside0.mk (below_step (by repeat (first | (with_reducible first | exact Hg10.out | apply below_alloc | apply pw_below_drewN | apply below_drew1) | exact Hg10.out)) hbr); clear Hg10; have Hg10 := Hg10n; clear Hg10n; have Hg12n := Aside0.mk (below_step (by repeat (first | (with_reducible first | exact Hg12.out | apply below_alloc | apply pw_below_drewN | apply below_drew1) | exact Hg12.out)) hbr); clear Hg12; have Hg12 := Hg12n; clear Hg12n; have Hg14n := Aside0.mk (below_step (by repeat (first | (with_reducible first | exact Hg14.out | apply below_alloc | apply pw_below_drewN | apply below_drew1) | exact Hg14.out)) hbr); clear Hg14; have Hg14 := Hg14n; clear Hg14n; clear hbr) | (go_at_call 14; (with_reducible refine (pred_Both.calls _ _ _ _ _ _ _ _ _ _ _ _ _ _ _ _ _ B2.out).mono ?_); rintro e wr ⟨rfl, hbr⟩; have HBn := Aside0.mk (below_step (by repeat (first | (with_reducible first | exact HB.out | apply below_alloc | apply pw_below_drewN | apply below_drew1) | exact HB.out)) hbr); clear HB; have HB := HBn; clear HBn; have Hg10n := Aside0.mk (below_step (by repeat (first | (with_reducible first | exact Hg10.out | apply below_alloc | apply pw_below_drewN | apply below_drew1) | exact Hg10.out)) hbr); clear Hg10; have Hg10 := Hg10n; clear Hg10n; have Hg12n := Aside0.mk (below_step (by repeat (first | (with_reducible first | exact Hg12.out | apply below_alloc | apply pw_below_drewN | apply below_drew1) | exact Hg12.out)) hbr); clear Hg12; have Hg12 := Hg12n; clear Hg12n; have Hg14n := Aside0.mk (below_step (by repeat (first | (with_reducible first | exact Hg14.out | apply below_alloc | apply pw_below_drewN | apply below_drew1) | exact Hg14.out)) hbr); clear Hg14; have Hg14 := Hg14n; clear Hg14n; clear hbr) | (go_at_call 14; (with_reducible refine (pred_Both.calls _ _ _ _ _ _ _ _ _ _ _ _ _ _ _ _ _ B3.out).mono ?_); rintro e wr ⟨rfl, hbr⟩; have HBn := Aside0.mk (below_step (by repeat (first | (with_reducible first | exact HB.out | apply below_alloc | apply pw_below_drewN | apply below_drew1) | exact HB.out)) hbr); clear HB; have HB := HBn; clear HBn; have Hg10n := Aside0.mk (below_step (by repeat (first | (with_reducible first | exact Hg10.out | apply below_alloc | apply pw_below_drewN | apply below_drew1) | exact Hg10.out)) hbr); clear Hg10; have Hg10 := Hg10n; clear Hg10n; have Hg12n := Aside0.mk (below_step (by repeat (first | (with_reducible first | exact Hg12.out | apply below_alloc | apply pw_below_drewN | apply below_drew1) | exact Hg12.out)) hbr); clear Hg12; have Hg12 := Hg12n; clear Hg12n; have Hg14n := Aside0.mk (below_step (by repeat (first | (with_reducible first | exact Hg14.out | apply below_alloc | apply pw_below_drewN | apply below_drew1) | exact Hg14.out)) hbr); clear Hg14; have Hg14 := Hg14n; clear Hg14n; clear hbr) | (go_at_call 14; (with_reducible refine (pred_Both.calls _ _ _ _ _ _ _ _ _ _ _ _ _ _ _ _ _ B4.out).mono ?_); rintro e wr ⟨rfl, hbr⟩; have HBn := Aside0.mk (below_step (by repeat (first | (with_reducible first | exact HB.out | apply below_alloc | apply pw_below_drewN | apply below_drew1) | exact HB.out)) hbr); clear HB; have HB := HBn; clear HBn; have Hg10n := Aside0.mk (below_step (by repeat (first | (with_reducible first | exact Hg10.out | apply below_alloc | apply pw_below_drewN | apply below_drew1) | exact Hg10.out)) hbr); clear Hg10; have Hg10 := Hg10n; clear Hg10n; have Hg12n := Aside0.mk (below_step (by repeat (first | (with_reducible first | exact Hg12.out | apply below_alloc | apply pw_below_drewN | apply below_drew1) | exact Hg12.out)) hbr); clear Hg12; have Hg12 := Hg12n; clear Hg12n; have Hg14n := Aside0.mk (below_step (by repeat (first | (with_reducible first | exact Hg14.out | apply below_alloc | apply pw_below_drewN | apply below_drew1) | exact Hg14.out)) hbr); clear Hg14; have Hg14 := Hg14n; clear Hg14n; clear hbr) | (go_at_call 14; (with_reducible refine (pred_Both.calls _ _ _ _ _ _ _ _ _ _ _ _ _ _ _ _ _ B5.out).mono ?_); rintro e wr ⟨rfl, hbr⟩; have HBn := Aside0.mk (below_step (by repeat (first | (with_reducible first | exact HB.out | apply below_alloc | apply pw_below_drewN | apply below_drew1) | exact HB.out)) hbr); clear HB; have HB := HBn; clear HBn; have Hg10n := Aside0.mk (below_step (by repeat (first | (with_reducible first | exact Hg10.out | apply below_alloc | apply pw_below_drewN | apply below_drew1) | exact Hg10.out)) hbr); clear Hg10; have Hg10 := Hg10n; clear Hg10n; have Hg12n := Aside0.mk (below_step (by repeat (first | (with_reducible first | exact Hg12.out | apply below_alloc | apply pw_below_drewN | apply below_drew1) | exact Hg12.out)) hbr); clear Hg12; have Hg12 := Hg12n; clear Hg12n; have Hg14n := Aside0.mk (below_step (by repeat (first | (with_reducible first | exact Hg14.out | apply below_alloc | apply pw_below_drewN | apply below_drew1) | exact Hg14.out)) hbr); clear Hg14; have Hg14 := Hg14n; clear Hg14n; clear hbr))
  have HBn := Aside0.mk (below_alloc HB.out (.cells #[.string (⟨#[]⟩ : ByteArray), .int .i64 0, .int .i64 0, .int .i64 0, .string (⟨#[]⟩ : ByteArray)] 23)); clear HB; have HB := HBn; clear HBn
  have Hg10n := Aside0.mk (below_alloc Hg10.out (.cells #[.string (⟨#[]⟩ : ByteArray), .int .i64 0, .int .i64 0, .int .i64 0, .string (⟨#[]⟩ : ByteArray)] 23)); clear Hg10; have Hg10 := Hg10n; clear Hg10n
  have Hg12n := Aside0.mk (below_alloc Hg12.out (.cells #[.string (⟨#[]⟩ : ByteArray), .int .i64 0, .int .i64 0, .int .i64 0, .string (⟨#[]⟩ : ByteArray)] 23)); clear Hg12; have Hg12 := Hg12n; clear Hg12n
  have Hg14n := Aside0.mk (below_alloc Hg14.out (.cells #[.string (⟨#[]⟩ : ByteArray), .int .i64 0, .int .i64 0, .int .i64 0, .string (⟨#[]⟩ : ByteArray)] 23)); clear Hg14; have Hg14 := Hg14n; clear Hg14n
  generalize wr.alloc (.cells #[.string (⟨#[]⟩ : ByteArray), .int .i64 0, .int .i64 0, .int .i64 0, .string (⟨#[]⟩ : ByteArray)] 23) = W8 at  HB Hg10 Hg12 Hg14 ⊢
  go_upto_region 9 with (first | (go_at_call 13; (with_reducible refine (p13 _ _).mono ?_); rintro e wr ⟨rfl, hbr⟩; have HBn := Aside0.mk (below_step (by repeat (first | (with_reducible first | exact HB.out | apply below_alloc | apply pw_below_drewN | apply below_drew1) | exact HB.out)) hbr); clear HB; have HB := HBn; clear HBn; have Hg10n := Aside0.mk (below_step (by repeat (first | (with_reducible first | exact Hg10.out | apply below_alloc | apply pw_below_drewN | apply below_drew1) | exact Hg10.out)) hbr); clear Hg10; have Hg10 := Hg10n; clear Hg10n; have Hg12n := Aside0.mk (below_step (by repeat (first | (with_reducible first | exact Hg12.out | apply below_alloc | apply pw_below_drewN | apply below_drew1) | exact Hg12.out)) hbr); clear Hg12; have Hg12 := Hg12n; clear Hg12n; have Hg14n := Aside0.mk (below_step (by repeat (first | (with_reducible first | exact Hg14.out | apply below_alloc | apply pw_below_drewN | apply below_drew1) | exact Hg14.out)) hbr); clear Hg14; have Hg14 := Hg14n; clear Hg14n; clear hbr) | (go_at_call 14; (with_reducible refine (pred_Both.calls _ _ _ _ _ _ _ _ _ _ _ _ _ _ _ _ _ B1.out).mono ?_); rintro e wr ⟨rfl, hbr⟩; have HBn := Aside0.mk (below_step (by repeat (first | (with_reducible first | exact HB.out | apply below_alloc | apply pw_below_drewN | apply below_drew1) | exact HB.out)) hbr); clear HB; have HB := HBn; clear HBn; have Hg10n := Aside0.mk (below_step (by repeat (first | (with_reducible first | exact Hg10.out | apply below_alloc | apply pw_below_drewN | apply below_drew1) | exact Hg10.out)) hbr); clear Hg10; have Hg10 := Hg10n; clear Hg10n; have Hg12n := Aside0.mk (below_step (by repeat (first | (with_reducible first | exact Hg12.out | apply below_alloc | apply pw_below_drewN | apply below_drew1) | exact Hg12.out)) hbr); clear Hg12; have Hg12 := Hg12n; clear Hg12n; have Hg14n := Aside0.mk (below_step (by repeat (first | (with_reducible first | exact Hg14.out | apply below_alloc | apply pw_below_drewN | apply below_drew1) | exact Hg14.out)) hbr); clear Hg14; have Hg14 := Hg14n; clear Hg14n; clear hbr) | (go_at_call 14; (with_reducible refine (pred_Both.calls _ _ _ _ _ _ _ _ _ _ _ _ _ _ _ _ _ B2.out).mono ?_); rintro e wr ⟨rfl, hbr⟩; have HBn := Aside0.mk (below_step (by repeat (first | (with_reducible first | exact HB.out | apply below_alloc | apply pw_below_drewN | apply below_drew1) | exact HB.out)) hbr); clear HB; have HB := HBn; clear HBn; have Hg10n := Aside0.mk (below_step (by repeat (first | (with_reducible first | exact Hg10.out | apply below_alloc | apply pw_below_drewN | apply below_drew1) | exact Hg10.out)) hbr); clear Hg10; have Hg10 := Hg10n; clear Hg10n; have Hg12n := Aside0.mk (below_step (by repeat (first | (with_reducible first | exact Hg12.out | apply below_alloc | apply pw_below_drewN | apply below_drew1) | exact Hg12.out)) hbr); clear Hg12; have Hg12 := Hg12n; clear Hg12n; have Hg14n := Aside0.mk (below_step (by repeat (first | (with_reducible first | exact Hg14.out | apply below_alloc | apply pw_below_drewN | apply below_drew1) | exact Hg14.out)) hbr); clear Hg14; have Hg14 := Hg14n; clear Hg14n; clear hbr) | (go_at_call 14; (with_reducible refine (pred_Both.calls _ _ _ _ _ _ _ _ _ _ _ _ _ _ _ _ _ B3.out).mono ?_); rintro e wr ⟨rfl, hbr⟩; have HBn := Aside0.mk (below_step (by repeat (first | (with_reducible first | exact HB.out | apply below_alloc | apply pw_below_drewN | apply below_drew1) | exact HB.out)) hbr); clear HB; have HB := HBn; clear HBn; have Hg10n := Aside0.mk (below_step (by repeat (first | (with_reducible first | exact Hg10.out | apply below_alloc | apply pw_below_drewN | apply below_drew1) | exact Hg10.out)) hbr); clear Hg10; have Hg10 := Hg10n; clear Hg10n; have Hg12n := Aside0.mk (below_step (by repeat (first | (with_reducible first | exact Hg12.out | apply below_alloc | apply pw_below_drewN | apply below_drew1) | exact Hg12.out)) hbr); clear Hg12; have Hg12 := Hg12n; clear Hg12n; have Hg14n := Aside0.mk (below_step (by repeat (first | (with_reducible first | exact Hg14.out | apply below_alloc | apply pw_below_drewN | apply below_drew1) | exact Hg14.out)) hbr); clear Hg14; have Hg14 := Hg14n; clear Hg14n; clear hbr) | (go_at_call 14; (with_reducible refine (pred_Both.calls _ _ _ _ _ _ _ _ _ _ _ _ _ _ _ _ _ B4.out).mono ?_); rintro e wr ⟨rfl, hbr⟩; have HBn := Aside0.mk (below_step (by repeat (first | (with_reducible first | exact HB.out | apply below_alloc | apply pw_below_drewN | apply below_drew1) | exact HB.out)) hbr); clear HB; have HB := HBn; clear HBn; have Hg10n := Aside0.mk (below_step (by repeat (first | (with_reducible first | exact Hg10.out | apply below_alloc | apply pw_below_drewN | apply below_drew1) | exact Hg10.out)) hbr); clear Hg10; have Hg10 := Hg10n; clear Hg10n; have Hg12n := Aside0.mk (below_step (by repeat (first | (with_reducible first | exact Hg12.out | apply below_alloc | apply pw_below_drewN | apply below_drew1) | exact Hg12.out)) hbr); clear Hg12; have Hg12 := Hg12n; clear Hg12n; have Hg14n := Aside0.mk (below_step (by repeat (first | (with_reducible first | exact Hg14.out | apply below_alloc | apply pw_below_drewN | apply below_drew1) | exact Hg14.out)) hbr); clear Hg14; have Hg14 := Hg14n; clear Hg14n; clear hbr) | (go_at_call 14; (with_reducible refine (pred_Both.calls _ _ _ _ _ _ _ _ _ _ _ _ _ _ _ _ _ B5.out).mono ?_); rintro e wr ⟨rfl, hbr⟩; have HBn := Aside0.mk (below_step (by repeat (first | (with_reducible first | exact HB.out | apply below_alloc | apply pw_below_drewN | apply below_drew1) | exact HB.out)) hbr); clear HB; have HB := HBn; clear HBn; have Hg10n := Aside0.mk (below_step (by repeat (first | (with_reducible first | exact Hg10.out | apply below_alloc | apply pw_below_drewN | apply below_drew1) | exact Hg10.out)) hbr); clear Hg10; have Hg10 := Hg10n; clear Hg10n; have Hg12n := Aside0.mk (below_step (by repeat (first | (with_reducible first | exact Hg12.out | apply below_alloc | apply pw_below_drewN | apply below_drew1) | exact Hg12.out)) hbr); clear Hg12; have Hg12 := Hg12n; clear Hg12n; have Hg14n := Aside0.mk (below_step (by repeat (first | (with_reducible first | exact Hg14.out | apply below_alloc | apply pw_below_drewN | apply below_drew1) | exact Hg14.out)) hbr); clear Hg14; have Hg14 := Hg14n; clear Hg14n; clear hbr))
  have hg20 : (W8.alloc (.cells #[.bool true, .int .i64 0, .string (A ++ B)] 39)).heap[W8.heap.size]? = some (.cells #[.bool true, .int .i64 0, .string (A ++ B)] 39 (0, 0)) := heap_alloc_new W8 _
  have HBn := Aside0.mk (below_alloc HB.out (.cells #[.bool true, .int .i64 0, .string (A ++ B)] 39)); clear HB; have HB := HBn; clear HBn
  have Hg10n := Aside0.mk (below_alloc Hg10.out (.cells #[.bool true, .int .i64 0, .string (A ++ B)] 39)); clear Hg10; have Hg10 := Hg10n; clear Hg10n
  have Hg12n := Aside0.mk (below_alloc Hg12.out (.cells #[.bool true, .int .i64 0, .string (A ++ B)] 39)); clear Hg12; have Hg12 := Hg12n; clear Hg12n
  have Hg14n := Aside0.mk (below_alloc Hg14.out (.cells #[.bool true, .int .i64 0, .string (A ++ B)] 39)); clear Hg14; have Hg14 := Hg14n; clear Hg14n
  generalize W8.alloc (.cells #[.bool true, .int .i64 0, .string (A ++ B)] 39) = W9 at hg20 HB Hg10 Hg12 Hg14 ⊢
  generalize W8.heap.size = g20 at hg20 ⊢
  have kg10 := (Hg10.out.block _ (blk_lt Kg10.out)).trans Kg10.out
  have kg12 := (Hg12.out.block _ (blk_lt Kg12.out)).trans Kg12.out
  have kg14 := (Hg14.out.block _ (blk_lt Kg14.out)).trans Kg14.out
  have kg20 := hg20
  have hS : Aside0 (∀ w', Below W9.heap.size W9 w' → w'.cell? ⟨g10, 0, none⟩ = some (.string (⟨#[97]⟩ : ByteArray)) ∧ w'.cell? ⟨g10, 1, none⟩ = some (.int .i64 3) ∧ w'.cell? ⟨g10, 2, none⟩ = some (.int .i64 0) ∧ w'.cell? ⟨g10, 3, none⟩ = some (.int .i64 0) ∧ w'.cell? ⟨g10, 4, none⟩ = some (.string (A ++ B)) ∧ w'.cell? ⟨g12, 0, none⟩ = some (.string (⟨#[97]⟩ : ByteArray)) ∧ w'.cell? ⟨g12, 1, none⟩ = some (.int .i64 3) ∧ w'.cell? ⟨g12, 2, none⟩ = some (.int .i64 0) ∧ w'.cell? ⟨g12, 3, none⟩ = some (.int .i64 0) ∧ w'.cell? ⟨g12, 4, none⟩ = some (.string (A ++ B)) ∧ w'.cell? ⟨g14, 0, none⟩ = some (.string (⟨#[97]⟩ : ByteArray)) ∧ w'.cell? ⟨g14, 1, none⟩ = some (.int .i64 2) ∧ w'.cell? ⟨g14, 2, none⟩ = some (.int .i64 0) ∧ w'.cell? ⟨g14, 3, none⟩ = some (.int .i64 0) ∧ w'.cell? ⟨g14, 4, none⟩ = some (.string (A ++ B)) ∧ w'.cell? ⟨g20, 0, none⟩ = some (.bool true) ∧ w'.cell? ⟨g20, 1, none⟩ = some (.int .i64 0) ∧ w'.cell? ⟨g20, 2, none⟩ = some (.string (A ++ B))) := ⟨fun w' hw => ⟨(blk_cell ((hw.block _ (blk_lt kg10)).trans kg10) 0).trans rfl, (blk_cell ((hw.block _ (blk_lt kg10)).trans kg10) 1).trans rfl, (blk_cell ((hw.block _ (blk_lt kg10)).trans kg10) 2).trans rfl, (blk_cell ((hw.block _ (blk_lt kg10)).trans kg10) 3).trans rfl, (blk_cell ((hw.block _ (blk_lt kg10)).trans kg10) 4).trans rfl, (blk_cell ((hw.block _ (blk_lt kg12)).trans kg12) 0).trans rfl, (blk_cell ((hw.block _ (blk_lt kg12)).trans kg12) 1).trans rfl, (blk_cell ((hw.block _ (blk_lt kg12)).trans kg12) 2).trans rfl, (blk_cell ((hw.block _ (blk_lt kg12)).trans kg12) 3).trans rfl, (blk_cell ((hw.block _ (blk_lt kg12)).trans kg12) 4).trans rfl, (blk_cell ((hw.block _ (blk_lt kg14)).trans kg14) 0).trans rfl, (blk_cell ((hw.block _ (blk_lt kg14)).trans kg14) 1).trans rfl, (blk_cell ((hw.block _ (blk_lt kg14)).trans kg14) 2).trans rfl, (blk_cell ((hw.block _ (blk_lt kg14)).trans kg14) 3).trans rfl, (blk_cell ((hw.block _ (blk_lt kg14)).trans kg14) 4).trans rfl, (blk_cell ((hw.block _ (blk_lt kg20)).trans kg20) 0).trans rfl, (blk_cell ((hw.block _ (blk_lt kg20)).trans kg20) 1).trans rfl, (blk_cell ((hw.block _ (blk_lt kg20)).trans kg20) 2).trans rfl⟩⟩
  clear kg10 kg12 kg14 kg20 hg20 Hg10 Hg12 Hg14 Kg10 Kg12 Kg14 B1 B2 B3 B4 B5
  obtain ⟨S, hSd⟩ : ∃ S : World → Prop, S = fun w' => w'.cell? ⟨g10, 0, none⟩ = some (.string (⟨#[97]⟩ : ByteArray)) ∧ w'.cell? ⟨g10, 1, none⟩ = some (.int .i64 3) ∧ w'.cell? ⟨g10, 2, none⟩ = some (.int .i64 0) ∧ w'.cell? ⟨g10, 3, none⟩ = some (.int .i64 0) ∧ w'.cell? ⟨g10, 4, none⟩ = some (.string (A ++ B)) ∧ w'.cell? ⟨g12, 0, none⟩ = some (.string (⟨#[97]⟩ : ByteArray)) ∧ w'.cell? ⟨g12, 1, none⟩ = some (.int .i64 3) ∧ w'.cell? ⟨g12, 2, none⟩ = some (.int .i64 0) ∧ w'.cell? ⟨g12, 3, none⟩ = some (.int .i64 0) ∧ w'.cell? ⟨g12, 4, none⟩ = some (.string (A ++ B)) ∧ w'.cell? ⟨g14, 0, none⟩ = some (.string (⟨#[97]⟩ : ByteArray)) ∧ w'.cell? ⟨g14, 1, none⟩ = some (.int .i64 2) ∧ w'.cell? ⟨g14, 2, none⟩ = some (.int .i64 0) ∧ w'.cell? ⟨g14, 3, none⟩ = some (.int .i64 0) ∧ w'.cell? ⟨g14, 4, none⟩ = some (.string (A ++ B)) ∧ w'.cell? ⟨g20, 0, none⟩ = some (.bool true) ∧ w'.cell? ⟨g20, 1, none⟩ = some (.int .i64 0) ∧ w'.cell? ⟨g20, 2, none⟩ = some (.string (A ++ B)) := ⟨_, rfl⟩
  have HS : Aside0 (∀ w', Below W9.heap.size W9 w' → S w') := ⟨fun w' hw => by rw [hSd]; exact hS.out w' hw⟩
  clear hS
  have LD10 : Aside0 (∀ w', S w' → (Instr.loadAt 23 (.pointer (some ⟨g10, 0, none⟩))).run Tryz.prog w' = .ok (.agg #[.string (⟨#[97]⟩ : ByteArray), .int .i64 3, .int .i64 0, .int .i64 0, .string (A ++ B)]) w') := ⟨fun w' hs => by rw [hSd] at hs; obtain ⟨s0, s1, s2, s3, s4, s5, s6, s7, s8, s9, s10, s11, s12, s13, s14, s15, s16, s17⟩ := hs; go_simp⟩
  have LD12 : Aside0 (∀ w', S w' → (Instr.loadAt 23 (.pointer (some ⟨g12, 0, none⟩))).run Tryz.prog w' = .ok (.agg #[.string (⟨#[97]⟩ : ByteArray), .int .i64 3, .int .i64 0, .int .i64 0, .string (A ++ B)]) w') := ⟨fun w' hs => by rw [hSd] at hs; obtain ⟨s0, s1, s2, s3, s4, s5, s6, s7, s8, s9, s10, s11, s12, s13, s14, s15, s16, s17⟩ := hs; go_simp⟩
  have LD14k : Aside0 (∀ w', S w' → (Instr.loadAt 3 (.pointer (some ⟨g14, 1, none⟩))).run Tryz.prog w' = .ok (.int .i64 2) w') := ⟨fun w' hs => by rw [hSd] at hs; obtain ⟨s0, s1, s2, s3, s4, s5, s6, s7, s8, s9, s10, s11, s12, s13, s14, s15, s16, s17⟩ := hs; go_simp⟩
  have LD14t : Aside0 (∀ w', S w' → (Instr.loadAt 9 (.pointer (some ⟨g14, 4, none⟩))).run Tryz.prog w' = .ok (.string (A ++ B)) w') := ⟨fun w' hs => by rw [hSd] at hs; obtain ⟨s0, s1, s2, s3, s4, s5, s6, s7, s8, s9, s10, s11, s12, s13, s14, s15, s16, s17⟩ := hs; go_simp⟩
  have LD20 : Aside0 (∀ w', S w' → (Instr.loadAt 39 (.pointer (some ⟨g20, 0, none⟩))).run Tryz.prog w' = .ok (.agg #[.bool true, .int .i64 0, .string (A ++ B)]) w') := ⟨fun w' hs => by rw [hSd] at hs; obtain ⟨s0, s1, s2, s3, s4, s5, s6, s7, s8, s9, s10, s11, s12, s13, s14, s15, s16, s17⟩ := hs; go_simp⟩
  have k2 := Aside0.mk k1
  clear hSd k1 hu23 hu39 hu9 hz1 hz2 hz3
  as_aux_lemma =>
    refine Rg.start pre9 (S) 180 89 [(2, .int .i64 n), (7, .string A), (8, .string B), (9, .func (.func 13) #[] #[]), (10, .pointer (some ⟨g10, 0, none⟩)), (11, .bool true), (12, .pointer (some ⟨g12, 0, none⟩)), (13, .bool true), (14, .pointer (some ⟨g14, 0, none⟩)), (15, .bool true), (17, .bool false), (19, .bool false), (20, .pointer (some ⟨g20, 0, none⟩))] pre9t (by kernel_rfl) (by kernel_rfl) pre9T (by decide) (fun c a a' w e h => ⟨e ▸ h.1, h.2⟩) (Rg.Fr.mk' (by kernel_rfl) rfl ⟨rfl, rfl, rfl, rfl, rfl, rfl, rfl, rfl, rfl, rfl, rfl, rfl, rfl, trivial⟩) (HS.out _ (below_drew1 (Below.refl _ _))) (fun Q' C HE hS => ?_)
    have hb0 : Below W9.heap.size W9 W9.drew := below_drew1 (Below.refl _ _)
    generalize W9.drew = V0 at hb0 hS ⊢
    refine Rg.move C 0 92 1 (.bool true) (by kernel_rfl) (by kernel_rfl) ?_
    refine Rg.move C 1 93 3 (.bool true) (by kernel_rfl) (by kernel_rfl) ?_
    refine Rg.move C 2 94 7 (.bool true) (by kernel_rfl) (by kernel_rfl) ?_
    refine Rg.pick C 3 95 15 (.bool true) (by kernel_rfl) (by kernel_rfl) ?_
    refine Rg.move C 4 96 31 (.bool true) (by kernel_rfl) (by kernel_rfl) ?_
    refine Rg.gen C hS 5 97 63 (.agg #[.string (⟨#[97]⟩ : ByteArray), .int .i64 3, .int .i64 0, .int .i64 0, .string (A ++ B)]) (Op.load 23 (Operand.tmp 10)) [(Operand.tmp 10, .pointer (some ⟨g10, 0, none⟩))] (by kernel_rfl) (by kernel_rfl) (by kernel_rfl) (fun o ho ρ h w hS => by have h1 := h _ (.head _); simp only at h1; clear h; unfold execOp; simp only [ho, h1]; simp [LD10.out w hS]) ?_
    refine Rg.move C 6 98 127 (.func (.func 13) #[] #[]) (by kernel_rfl) (by kernel_rfl) ?_
    refine Rg.move C 7 99 255 (.string A) (by kernel_rfl) (by kernel_rfl) ?_
    refine Rg.move C 8 100 511 (.string B) (by kernel_rfl) (by kernel_rfl) ?_
    refine Rg.gen C hS 9 101 1023 (.string (A ++ B)) (Op.binOp BinOp.add 9 (Operand.tmp 99) (Operand.tmp 100) 9) [(Operand.tmp 99, .string A), (Operand.tmp 100, .string B)] (by kernel_rfl) (by kernel_rfl) (by kernel_rfl) (fun o ho ρ h w hS => by have h1 := h _ (.head _); have h2 := h _ (.tail _ (.head _)); simp only at h1 h2; clear h; unfold execOp; simp only [ho, h1, h2]; simp [eqGuard_add, run_add A B (by have := hsAB.out; have h : (A ++ B).size = A.size + B.size := ByteArray.size_append; omega) w]) ?_
    refine Rg.call C 10 102 2047 #[.string (A ++ B)] (by kernel_rfl) Tryz.func13 (by kernel_rfl) rfl (by kernel_rfl) ?_
    refine (p13 (A ++ B) _).mono ?_
    rintro e V1 ⟨rfl, hbc⟩
    have hb1 : Below W9.heap.size W9 V1 := below_step hb0 hbc
    refine ⟨_, rfl, HS.out _ hb1, ?_⟩
    have hS := HS.out _ hb1
    clear hbc hb0
    refine Rg.gen C hS 11 103 4095 (.bool true) (Op.binOp BinOp.eql 23 (Operand.tmp 97) (Operand.tmp 102) 23) [(Operand.tmp 97, .agg #[.string (⟨#[97]⟩ : ByteArray), .int .i64 3, .int .i64 0, .int .i64 0, .string (A ++ B)]), (Operand.tmp 102, .agg #[.string (⟨#[97]⟩ : ByteArray), .int .i64 3, .int .i64 0, .int .i64 0, .string (A ++ B)])] (by kernel_rfl) (by kernel_rfl) (by kernel_rfl) (fun o ho ρ h w hS => by have h1 := h _ (.head _); have h2 := h _ (.tail _ (.head _)); simp only at h1 h2; clear h; unfold execOp; simp only [ho, h1, h2]; simp [run_eqGuard_agg _ _ _ _ _ _ _ Tryz.eqGuardType23, k2.out w]) ?_
    refine Rg.pick C 12 104 8191 (.bool true) (by kernel_rfl) (by kernel_rfl) ?_
    refine Rg.move C 13 105 16383 (.bool true) (by kernel_rfl) (by kernel_rfl) ?_
    refine Rg.gen C hS 14 106 32767 (.agg #[.string (⟨#[97]⟩ : ByteArray), .int .i64 3, .int .i64 0, .int .i64 0, .string (A ++ B)]) (Op.load 23 (Operand.tmp 12)) [(Operand.tmp 12, .pointer (some ⟨g12, 0, none⟩))] (by kernel_rfl) (by kernel_rfl) (by kernel_rfl) (fun o ho ρ h w hS => by have h1 := h _ (.head _); simp only at h1; clear h; unfold execOp; simp only [ho, h1]; simp [LD12.out w hS]) ?_
    refine Rg.gen C hS 15 107 65535 (.agg #[.string (⟨#[97]⟩ : ByteArray), .int .i64 3, .int .i64 0, .int .i64 0, .string (A ++ B)]) (Op.load 23 (Operand.tmp 10)) [(Operand.tmp 10, .pointer (some ⟨g10, 0, none⟩))] (by kernel_rfl) (by kernel_rfl) (by kernel_rfl) (fun o ho ρ h w hS => by have h1 := h _ (.head _); simp only at h1; clear h; unfold execOp; simp only [ho, h1]; simp [LD10.out w hS]) ?_
    refine Rg.gen C hS 16 108 131071 (.bool true) (Op.binOp BinOp.eql 23 (Operand.tmp 106) (Operand.tmp 107) 23) [(Operand.tmp 106, .agg #[.string (⟨#[97]⟩ : ByteArray), .int .i64 3, .int .i64 0, .int .i64 0, .string (A ++ B)]), (Operand.tmp 107, .agg #[.string (⟨#[97]⟩ : ByteArray), .int .i64 3, .int .i64 0, .int .i64 0, .string (A ++ B)])] (by kernel_rfl) (by kernel_rfl) (by kernel_rfl) (fun o ho ρ h w hS => by have h1 := h _ (.head _); have h2 := h _ (.tail _ (.head _)); simp only at h1 h2; clear h; unfold execOp; simp only [ho, h1, h2]; simp [run_eqGuard_agg _ _ _ _ _ _ _ Tryz.eqGuardType23, k2.out w]) ?_
    refine Rg.pick C 17 109 262143 (.bool true) (by kernel_rfl) (by kernel_rfl) ?_
    refine Rg.move C 18 110 524287 (.bool true) (by kernel_rfl) (by kernel_rfl) ?_
    refine Rg.move C 19 111 1048575 (.bool true) (by kernel_rfl) (by kernel_rfl) ?_
    refine Rg.pick C 20 112 2097151 (.bool true) (by kernel_rfl) (by kernel_rfl) ?_
    refine Rg.move C 21 113 4194303 (.bool true) (by kernel_rfl) (by kernel_rfl) ?_
    refine Rg.gen C hS 22 114 8388607 (.pointer (some ⟨g14, 1, none⟩)) (Op.fieldAddr 23 (Operand.tmp 14) 1) [(Operand.tmp 14, .pointer (some ⟨g14, 0, none⟩))] (by kernel_rfl) (by kernel_rfl) (by kernel_rfl) (fun o ho ρ h w hS => by have h1 := h _ (.head _); simp only at h1; clear h; unfold execOp; simp only [ho, h1]; rfl) ?_
    refine Rg.gen C hS 23 115 16777215 (.int .i64 2) (Op.load 3 (Operand.tmp 114)) [(Operand.tmp 114, .pointer (some ⟨g14, 1, none⟩))] (by kernel_rfl) (by kernel_rfl) (by kernel_rfl) (fun o ho ρ h w hS => by have h1 := h _ (.head _); simp only at h1; clear h; unfold execOp; simp only [ho, h1]; simp [LD14k.out w hS]) ?_
    refine Rg.gen C hS 24 116 33554431 (Value.bool true) (Op.binOp BinOp.eql 3 (Operand.tmp 115) (Operand.const (Value.int IntKind.i64 2)) 3) [(Operand.tmp 115, .int .i64 2), (Operand.const (Value.int IntKind.i64 2), Value.int IntKind.i64 2)] (by kernel_rfl) (by kernel_rfl) (by kernel_rfl) (fun o ho ρ h w hS => by have h1 := h _ (.head _); have h2 := h _ (.tail _ (.head _)); simp only at h1 h2; clear h; unfold execOp; simp only [ho, h1, h2]; go_simp) ?_
    refine Rg.pick C 25 117 67108863 (Value.bool true) (by kernel_rfl) (by kernel_rfl) ?_
    refine Rg.move C 26 118 134217727 (Value.bool true) (by kernel_rfl) (by kernel_rfl) ?_
    refine Rg.gen C hS 27 119 268435455 (.pointer (some ⟨g14, 4, none⟩)) (Op.fieldAddr 23 (Operand.tmp 14) 4) [(Operand.tmp 14, .pointer (some ⟨g14, 0, none⟩))] (by kernel_rfl) (by kernel_rfl) (by kernel_rfl) (fun o ho ρ h w hS => by have h1 := h _ (.head _); simp only at h1; clear h; unfold execOp; simp only [ho, h1]; rfl) ?_
    refine Rg.gen C hS 28 120 536870911 (.string (A ++ B)) (Op.load 9 (Operand.tmp 119)) [(Operand.tmp 119, .pointer (some ⟨g14, 4, none⟩))] (by kernel_rfl) (by kernel_rfl) (by kernel_rfl) (fun o ho ρ h w hS => by have h1 := h _ (.head _); simp only at h1; clear h; unfold execOp; simp only [ho, h1]; simp [LD14t.out w hS]) ?_
    refine Rg.move C 29 121 1073741823 (.string A) (by kernel_rfl) (by kernel_rfl) ?_
    refine Rg.move C 30 122 2147483647 (.string B) (by kernel_rfl) (by kernel_rfl) ?_
    refine Rg.gen C hS 31 123 4294967295 (.string (A ++ B)) (Op.binOp BinOp.add 9 (Operand.tmp 121) (Operand.tmp 122) 9) [(Operand.tmp 121, .string A), (Operand.tmp 122, .string B)] (by kernel_rfl) (by kernel_rfl) (by kernel_rfl) (fun o ho ρ h w hS => by have h1 := h _ (.head _); have h2 := h _ (.tail _ (.head _)); simp only at h1 h2; clear h; unfold execOp; simp only [ho, h1, h2]; simp [eqGuard_add, run_add A B (by have := hsAB.out; have h : (A ++ B).size = A.size + B.size := ByteArray.size_append; omega) w]) ?_
    refine Rg.gen C hS 32 124 8589934591 (.bool true) (Op.binOp BinOp.eql 9 (Operand.tmp 120) (Operand.tmp 123) 9) [(Operand.tmp 120, .string (A ++ B)), (Operand.tmp 123, .string (A ++ B))] (by kernel_rfl) (by kernel_rfl) (by kernel_rfl) (fun o ho ρ h w hS => by have h1 := h _ (.head _); have h2 := h _ (.tail _ (.head _)); simp only at h1 h2; clear h; unfold execOp; simp only [ho, h1, h2]; go_simp) ?_
    refine Rg.pick C 33 125 17179869183 (.bool true) (by kernel_rfl) (by kernel_rfl) ?_
    refine Rg.move C 34 126 34359738367 (.bool true) (by kernel_rfl) (by kernel_rfl) ?_
    refine Rg.move C 35 127 68719476735 (.bool false) (by kernel_rfl) (by kernel_rfl) ?_
    refine Rg.gen C hS 36 128 137438953471 (Value.bool true) (Op.unOp UnOp.not 4 (Operand.tmp 127)) [(Operand.tmp 127, .bool false)] (by kernel_rfl) (by kernel_rfl) (by kernel_rfl) (fun o ho ρ h w hS => by have h1 := h _ (.head _); simp only at h1; clear h; unfold execOp; simp only [ho, h1]; rfl) ?_
    refine Rg.pick C 37 129 274877906943 (Value.bool true) (by kernel_rfl) (by kernel_rfl) ?_
    refine Rg.move C 38 130 549755813887 (Value.bool true) (by kernel_rfl) (by kernel_rfl) ?_
    refine Rg.move C 39 131 1099511627775 (.bool false) (by kernel_rfl) (by kernel_rfl) ?_
    refine Rg.gen C hS 40 132 2199023255551 (Value.bool true) (Op.unOp UnOp.not 4 (Operand.tmp 131)) [(Operand.tmp 131, .bool false)] (by kernel_rfl) (by kernel_rfl) (by kernel_rfl) (fun o ho ρ h w hS => by have h1 := h _ (.head _); simp only at h1; clear h; unfold execOp; simp only [ho, h1]; rfl) ?_
    refine Rg.pick C 41 133 4398046511103 (Value.bool true) (by kernel_rfl) (by kernel_rfl) ?_
    refine Rg.move C 42 134 8796093022207 (Value.bool true) (by kernel_rfl) (by kernel_rfl) ?_
    refine Rg.move C 43 135 17592186044415 (.func (.func 13) #[] #[]) (by kernel_rfl) (by kernel_rfl) ?_
    refine Rg.move C 44 136 35184372088831 (.string A) (by kernel_rfl) (by kernel_rfl) ?_
    refine Rg.gen C hS 46 138 105553116266495 (.agg #[.bool true, .int .i64 0, .string (A ++ B)]) (Op.load 39 (Operand.tmp 20)) [(Operand.tmp 20, .pointer (some ⟨g20, 0, none⟩))] (by kernel_rfl) (by kernel_rfl) (by kernel_rfl) (fun o ho ρ h w hS => by have h1 := h _ (.head _); simp only at h1; clear h; unfold execOp; simp only [ho, h1]; simp [LD20.out w hS]) ?_
    refine Rg.call C 45 137 140737488355327 #[.string A] (by kernel_rfl) Tryz.func13 (by kernel_rfl) rfl (by kernel_rfl) ?_
    refine (p13 A _).mono ?_
    rintro e V2 ⟨rfl, hbc⟩
    have hb2 : Below W9.heap.size W9 V2 := below_step hb1 hbc
    refine ⟨_, rfl, HS.out _ hb2, ?_⟩
    have hS := HS.out _ hb2
    clear hbc hb1
    refine Rg.call C 47 139 281474976710655 #[.agg #[.string (⟨#[97]⟩ : ByteArray), .int .i64 3, .int .i64 0, .int .i64 0, .string A], .agg #[.bool true, .int .i64 0, .string (A ++ B)]] (by kernel_rfl) Tryz.func15 (by kernel_rfl) rfl (by kernel_rfl) ?_
    refine (pred_Holds.calls _ _ _ _ _ _ _ _ _ _ H1_.out).mono ?_
    rintro e V3 ⟨rfl, hbc⟩
    have hb3 : Below W9.heap.size W9 V3 := below_step hb2 hbc
    refine ⟨_, rfl, HS.out _ hb3, ?_⟩
    have hS := HS.out _ hb3
    clear hbc hb2
    refine Rg.pick C 48 140 562949953421311 (.bool true) (by kernel_rfl) (by kernel_rfl) ?_
    refine Rg.move C 49 141 1125899906842623 (.bool true) (by kernel_rfl) (by kernel_rfl) ?_
    refine Rg.move C 50 142 2251799813685247 (.func (.func 13) #[] #[]) (by kernel_rfl) (by kernel_rfl) ?_
    refine Rg.gen C hS 52 144 6755399441055743 (.agg #[.bool true, .int .i64 0, .string (A ++ B)]) (Op.load 39 (Operand.tmp 20)) [(Operand.tmp 20, .pointer (some ⟨g20, 0, none⟩))] (by kernel_rfl) (by kernel_rfl) (by kernel_rfl) (fun o ho ρ h w hS => by have h1 := h _ (.head _); simp only at h1; clear h; unfold execOp; simp only [ho, h1]; simp [LD20.out w hS]) ?_
    refine Rg.call C 51 143 9007199254740991 #[Value.string { data := #[] }] (by kernel_rfl) Tryz.func13 (by kernel_rfl) rfl (by kernel_rfl) ?_
    refine (p13 (⟨#[]⟩ : ByteArray) _).mono ?_
    rintro e V4 ⟨rfl, hbc⟩
    have hb4 : Below W9.heap.size W9 V4 := below_step hb3 hbc
    refine ⟨_, rfl, HS.out _ hb4, ?_⟩
    have hS := HS.out _ hb4
    clear hbc hb3
    refine Rg.call C 53 145 18014398509481983 #[.agg #[.string (⟨#[97]⟩ : ByteArray), .int .i64 3, .int .i64 0, .int .i64 0, .string (⟨#[]⟩ : ByteArray)], .agg #[.bool true, .int .i64 0, .string (A ++ B)]] (by kernel_rfl) Tryz.func15 (by kernel_rfl) rfl (by kernel_rfl) ?_
    refine (pred_Holds.calls _ _ _ _ _ _ _ _ _ _ H2_.out).mono ?_
    rintro e V5 ⟨rfl, hbc⟩
    have hb5 : Below W9.heap.size W9 V5 := below_step hb4 hbc
    refine ⟨_, rfl, HS.out _ hb5, ?_⟩
    have hS := HS.out _ hb5
    clear hbc hb4
    refine Rg.pick C 54 146 36028797018963967 (.bool true) (by kernel_rfl) (by kernel_rfl) ?_
    refine Rg.move C 55 147 72057594037927935 (.bool true) (by kernel_rfl) (by kernel_rfl) ?_
    refine Rg.move C 56 148 144115188075855871 (.func (.func 13) #[] #[]) (by kernel_rfl) (by kernel_rfl) ?_
    refine Rg.move C 58 150 432345564227567615 (.int .i64 n) (by kernel_rfl) (by kernel_rfl) ?_
    refine Rg.gen C hS 59 151 1008806316530991103 (.agg #[.bool false, .int .i64 n, .string (⟨#[]⟩ : ByteArray)]) (Op.build 39 #[(1, Operand.tmp 150)]) [(Operand.tmp 150, .int .i64 n)] (by kernel_rfl) (by kernel_rfl) (by kernel_rfl) (fun o ho ρ h w hS => by have h1 := h _ (.head _); simp only at h1; clear h; unfold execOp; simp only [ho, h1]; go_simp) ?_
    refine Rg.call C 57 149 1152921504606846975 #[Value.string { data := #[] }] (by kernel_rfl) Tryz.func13 (by kernel_rfl) rfl (by kernel_rfl) ?_
    refine (p13 (⟨#[]⟩ : ByteArray) _).mono ?_
    rintro e V6 ⟨rfl, hbc⟩
    have hb6 : Below W9.heap.size W9 V6 := below_step hb5 hbc
    refine ⟨_, rfl, HS.out _ hb6, ?_⟩
    have hS := HS.out _ hb6
    clear hbc hb5
    refine Rg.call C 60 152 2305843009213693951 #[.agg #[.string (⟨#[97]⟩ : ByteArray), .int .i64 3, .int .i64 0, .int .i64 0, .string (⟨#[]⟩ : ByteArray)], .agg #[.bool false, .int .i64 n, .string (⟨#[]⟩ : ByteArray)]] (by kernel_rfl) Tryz.func15 (by kernel_rfl) rfl (by kernel_rfl) ?_
    refine (pred_Holds.calls _ _ _ _ _ _ _ _ _ _ H3_.out).mono ?_
    rintro e V7 ⟨rfl, hbc⟩
    have hb7 : Below W9.heap.size W9 V7 := below_step hb6 hbc
    refine ⟨_, rfl, HS.out _ hb7, ?_⟩
    have hS := HS.out _ hb7
    clear hbc hb6
    refine Rg.gen C hS 61 153 4611686018427387903 (Value.bool true) (Op.unOp UnOp.not 4 (Operand.tmp 152)) [(Operand.tmp 152, .bool false)] (by kernel_rfl) (by kernel_rfl) (by kernel_rfl) (fun o ho ρ h w hS => by have h1 := h _ (.head _); simp only at h1; clear h; unfold execOp; simp only [ho, h1]; rfl) ?_
    refine Rg.pick C 62 154 9223372036854775807 (Value.bool true) (by kernel_rfl) (by kernel_rfl) ?_
    refine Rg.move C 63 155 18446744073709551615 (Value.bool true) (by kernel_rfl) (by kernel_rfl) ?_
    refine Rg.move C 64 156 36893488147419103231 (.func (.func 13) #[] #[]) (by kernel_rfl) (by kernel_rfl) ?_
    refine Rg.move C 65 157 73786976294838206463 (.string A) (by kernel_rfl) (by kernel_rfl) ?_
    refine Rg.move C 66 158 147573952589676412927 (.string B) (by kernel_rfl) (by kernel_rfl) ?_
    refine Rg.gen C hS 67 159 295147905179352825855 (.string (A ++ B)) (Op.binOp BinOp.add 9 (Operand.tmp 157) (Operand.tmp 158) 9) [(Operand.tmp 157, .string A), (Operand.tmp 158, .string B)] (by kernel_rfl) (by kernel_rfl) (by kernel_rfl) (fun o ho ρ h w hS => by have h1 := h _ (.head _); have h2 := h _ (.tail _ (.head _)); simp only at h1 h2; clear h; unfold execOp; simp only [ho, h1, h2]; simp [eqGuard_add, run_add A B (by have := hsAB.out; have h : (A ++ B).size = A.size + B.size := ByteArray.size_append; omega) w]) ?_
    refine Rg.gen C hS 68 160 590295810358705651711 (.string (A ++ B ++ (⟨#[113]⟩ : ByteArray))) (Op.binOp BinOp.add 9 (Operand.tmp 159) (Operand.const (Value.string { data := #[113] })) 9) [(Operand.tmp 159, .string (A ++ B)), (Operand.const (Value.string { data := #[113] }), Value.string { data := #[113] })] (by kernel_rfl) (by kernel_rfl) (by kernel_rfl) (fun o ho ρ h w hS => by have h1 := h _ (.head _); have h2 := h _ (.tail _ (.head _)); simp only at h1 h2; clear h; unfold execOp; simp only [ho, h1, h2]; simp [eqGuard_add, run_add (A ++ B) (⟨#[113]⟩ : ByteArray) (by have : ((⟨#[113]⟩ : ByteArray)).size = 1 := rfl; have := hsAB.out; omega) w]) ?_
    refine Rg.gen C hS 70 162 1770887431076116955135 (.agg #[.bool true, .int .i64 0, .string (A ++ B)]) (Op.load 39 (Operand.tmp 20)) [(Operand.tmp 20, .pointer (some ⟨g20, 0, none⟩))] (by kernel_rfl) (by kernel_rfl) (by kernel_rfl) (fun o ho ρ h w hS => by have h1 := h _ (.head _); simp only at h1; clear h; unfold execOp; simp only [ho, h1]; simp [LD20.out w hS]) ?_
    refine Rg.call C 69 161 2361183241434822606847 #[.string (A ++ B ++ (⟨#[113]⟩ : ByteArray))] (by kernel_rfl) Tryz.func13 (by kernel_rfl) rfl (by kernel_rfl) ?_
    refine (p13 (A ++ B ++ (⟨#[113]⟩ : ByteArray)) _).mono ?_
    rintro e V8 ⟨rfl, hbc⟩
    have hb8 : Below W9.heap.size W9 V8 := below_step hb7 hbc
    refine ⟨_, rfl, HS.out _ hb8, ?_⟩
    have hS := HS.out _ hb8
    clear hbc hb7
    refine Rg.call C 71 163 4722366482869645213695 #[.agg #[.string (⟨#[97]⟩ : ByteArray), .int .i64 3, .int .i64 0, .int .i64 0, .string (A ++ B ++ (⟨#[113]⟩ : ByteArray))], .agg #[.bool true, .int .i64 0, .string (A ++ B)]] (by kernel_rfl) Tryz.func15 (by kernel_rfl) rfl (by kernel_rfl) ?_
    refine (pred_Holds.calls _ _ _ _ _ _ _ _ _ _ H4_.out).mono ?_
    rintro e V9 ⟨rfl, hbc⟩
    have hb9 : Below W9.heap.size W9 V9 := below_step hb8 hbc
    refine ⟨_, rfl, HS.out _ hb9, ?_⟩
    have hS := HS.out _ hb9
    clear hbc hb8
    refine Rg.gen C hS 72 164 9444732965739290427391 (Value.bool true) (Op.unOp UnOp.not 4 (Operand.tmp 163)) [(Operand.tmp 163, .bool false)] (by kernel_rfl) (by kernel_rfl) (by kernel_rfl) (fun o ho ρ h w hS => by have h1 := h _ (.head _); simp only at h1; clear h; unfold execOp; simp only [ho, h1]; rfl) ?_
    refine Rg.pick C 73 165 18889465931478580854783 (Value.bool true) (by kernel_rfl) (by kernel_rfl) ?_
    refine Rg.move C 74 166 37778931862957161709567 (Value.bool true) (by kernel_rfl) (by kernel_rfl) ?_
    refine Rg.move C 75 167 75557863725914323419135 (.func (.func 13) #[] #[]) (by kernel_rfl) (by kernel_rfl) ?_
    refine Rg.call C 76 168 151115727451828646838271 #[Value.string { data := #[97, 98, 99, 100, 101, 102, 103, 104, 105, 106, 107, 108] }] (by kernel_rfl) Tryz.func13 (by kernel_rfl) rfl (by kernel_rfl) ?_
    refine (p13 (⟨#[97, 98, 99, 100, 101, 102, 103, 104, 105, 106, 107, 108]⟩ : ByteArray) _).mono ?_
    rintro e V10 ⟨rfl, hbc⟩
    have hb10 : Below W9.heap.size W9 V10 := below_step hb9 hbc
    refine ⟨_, rfl, HS.out _ hb10, ?_⟩
    have hS := HS.out _ hb10
    clear hbc hb9
    refine Rg.call C 77 169 302231454903657293676543 #[.agg #[.string (⟨#[97]⟩ : ByteArray), .int .i64 3, .int .i64 0, .int .i64 0, .string (⟨#[97, 98, 99, 100, 101, 102, 103, 104, 105, 106, 107, 108]⟩ : ByteArray)]] (by kernel_rfl) Tryz.func16 (by kernel_rfl) rfl (by kernel_rfl) ?_
    refine (pred_RightOne.calls 30 _ _ _ _ _ _ _ R1_.out).mono ?_
    rintro e V11 ⟨rfl, hbc⟩
    have hb11 : Below W9.heap.size W9 V11 := below_step hb10 hbc
    refine ⟨_, rfl, HS.out _ hb11, ?_⟩
    have hS := HS.out _ hb11
    clear hbc hb10
    refine Rg.gen C hS 78 170 604462909807314587353087 (Value.bool true) (Op.unOp UnOp.not 4 (Operand.tmp 169)) [(Operand.tmp 169, .bool false)] (by kernel_rfl) (by kernel_rfl) (by kernel_rfl) (fun o ho ρ h w hS => by have h1 := h _ (.head _); simp only at h1; clear h; unfold execOp; simp only [ho, h1]; rfl) ?_
    refine Rg.pick C 79 171 1208925819614629174706175 (Value.bool true) (by kernel_rfl) (by kernel_rfl) ?_
    refine Rg.move C 80 172 2417851639229258349412351 (Value.bool true) (by kernel_rfl) (by kernel_rfl) ?_
    refine Rg.move C 81 173 4835703278458516698824703 (.func (.func 13) #[] #[]) (by kernel_rfl) (by kernel_rfl) ?_
    refine Rg.call C 82 174 9671406556917033397649407 #[Value.string { data := #[97, 98, 99, 100, 101, 102, 103, 104, 105, 106, 107] }] (by kernel_rfl) Tryz.func13 (by kernel_rfl) rfl (by kernel_rfl) ?_
    refine (p13 (⟨#[97, 98, 99, 100, 101, 102, 103, 104, 105, 106, 107]⟩ : ByteArray) _).mono ?_
    rintro e V12 ⟨rfl, hbc⟩
    have hb12 : Below W9.heap.size W9 V12 := below_step hb11 hbc
    refine ⟨_, rfl, HS.out _ hb12, ?_⟩
    have hS := HS.out _ hb12
    clear hbc hb11
    refine Rg.call C 83 175 19342813113834066795298815 #[.agg #[.string (⟨#[97]⟩ : ByteArray), .int .i64 3, .int .i64 0, .int .i64 0, .string (⟨#[97, 98, 99, 100, 101, 102, 103, 104, 105, 106, 107]⟩ : ByteArray)]] (by kernel_rfl) Tryz.func16 (by kernel_rfl) rfl (by kernel_rfl) ?_
    refine (pred_RightOne.calls 30 _ _ _ _ _ _ _ R2_.out).mono ?_
    rintro e V13 ⟨rfl, hbc⟩
    have hb13 : Below W9.heap.size W9 V13 := below_step hb12 hbc
    refine ⟨_, rfl, HS.out _ hb13, ?_⟩
    have hS := HS.out _ hb13
    clear hbc hb12
    refine Rg.pick C 84 176 38685626227668133590597631 (.bool true) (by kernel_rfl) (by kernel_rfl) ?_
    refine Rg.move C 85 177 77371252455336267181195263 (.bool true) (by kernel_rfl) (by kernel_rfl) ?_
    refine Rg.call C 86 178 154742504910672534362390527 #[] (by kernel_rfl) Tryz.func3 (by kernel_rfl) rfl (by kernel_rfl) ?_
    refine (PredRuns.calls _ (Val.tb HTAB (below_step HB.out hb13)) ⟨Er.Typ.below (below_step HB.out hb13) HTYP.out⟩).mono ?_
    rintro e V14 ⟨rfl, hbc⟩
    have hb14 : Below W9.heap.size W9 V14 := below_step hb13 hbc
    refine ⟨_, rfl, HS.out _ hb14, ?_⟩
    have hS := HS.out _ hb14
    clear hbc hb13
    refine Rg.pick C 87 179 309485009821345068724781055 (.bool true) (by kernel_rfl) (by kernel_rfl) ?_
    refine Rg.move C 88 6 618970019642690137449562111 (.bool true) (by kernel_rfl) (by kernel_rfl) ?_
    refine Rg.done C (by kernel_rfl) (fun a hF => HE.out _ _ ?_)
    go_wp2
    refine bodyPost_ret (results_tmp rfl _ _ _) hF.defers ⟨by rw [hF.get 6 (by kernel_rfl)]; rfl, below_step HB.out hb14⟩
theorem Prefixes.calls (s t : ByteArray) (n : Int) (w : World) (HTAB : Aside0 (Val.Tab w)) (HTYP : Aside0 (Er.Typ w)) :
    Calls Tryz.prog 4 #[.string s, .string t, .int .i64 n] w fun e w' => e = .returned (.bool true) ∧ Below w.heap.size w w' := by
  obtain ⟨ma, A, hma, hA, hca⟩ := cutS 6 s
  obtain ⟨mb, B, hmb, hB, hcb⟩ := cutS 5 t
  have hAB : (A ++ B).size = A.size + B.size := ByteArray.size_append
  have e0 : ∀ x : ByteArray, preB (⟨#[]⟩ : ByteArray) x = true := fun x => by
    have := preB_app (⟨#[]⟩ : ByteArray) x
    rwa [show (⟨#[]⟩ : ByteArray) ++ x = x from ByteArray.empty_append] at this
  have pAB := preB_app A B
  have hXY : preB (A ++ (⟨#[121]⟩ : ByteArray)) (A ++ (⟨#[120]⟩ : ByteArray)) = false := by
    have hs : (A ++ (⟨#[121]⟩ : ByteArray)).size = (A ++ (⟨#[120]⟩ : ByteArray)).size := by rw [ByteArray.size_append, ByteArray.size_append]; rfl
    unfold preB
    rw [hs, show (A ++ (⟨#[120]⟩ : ByteArray)).extract 0 (A ++ (⟨#[120]⟩ : ByteArray)).size = A ++ (⟨#[120]⟩ : ByteArray) from ByteArray.extract_zero_size]
    have hne : ((A ++ (⟨#[120]⟩ : ByteArray)).toList == (A ++ (⟨#[121]⟩ : ByteArray)).toList) = false := by
      rw [beq_eq_false_iff_ne]
      intro h
      have h2 : A ++ (⟨#[120]⟩ : ByteArray) = A ++ (⟨#[121]⟩ : ByteArray) := toList_inj' h
      have h3 := congrArg (fun x : ByteArray => x.data.toList) h2
      simp [ByteArray.data_append] at h3
    rw [hne, Bool.and_false]
  have hQ : preB ((A ++ B) ++ (⟨#[113]⟩ : ByteArray)) (A ++ B) = false := by
    unfold preB
    have : ((A ++ B) ++ (⟨#[113]⟩ : ByteArray)).size = (A ++ B).size + 1 := by rw [ByteArray.size_append]; rfl
    rw [decide_eq_false (by omega), Bool.false_and]
  have hl : ∀ x y : ByteArray, pred_Holds.f (⟨#[97]⟩ : ByteArray) 3 0 0 x true 0 y = some (preB x y) := fun x y => holds_f ⟨(⟨#[97]⟩ : ByteArray), 3, 0, 0, x⟩ (txt40 y)
  have hs1 : (A ++ (⟨#[120]⟩ : ByteArray)).size = (A ++ (⟨#[121]⟩ : ByteArray)).size := by rw [ByteArray.size_append, ByteArray.size_append]; rfl
  refine Prefixes.walk s t A B n ma mb w HTAB HTYP hA hB hma hca hmb hcb ?_ ?_ ?_ ?_ ?_ ?_ ?_ ?_ ?_ (by kernel_rfl) (by kernel_rfl)
  · unfold pred_Both.f pred_Both.core pred_Both.fin
    rw [if_neg (by omega), if_neg (by omega), if_pos rfl]
    by_cases h : A.size < (A ++ B).size
    · rw [if_pos h, hl, pAB]; rfl
    · rw [if_neg h]
      have hB0 : B = (⟨#[]⟩ : ByteArray) := by
        have : B.size = 0 := by omega
        exact ByteArray.size_eq_zero_iff.1 this
      subst hB0
      rw [show A ++ (⟨#[]⟩ : ByteArray) = A from ByteArray.append_empty] at pAB ⊢
      rw [hl, pAB]; rfl
  · unfold pred_Both.f pred_Both.core pred_Both.fin
    rw [if_neg (by omega), if_neg (by omega), if_pos rfl, if_neg (by omega), hl, pAB]; rfl
  · unfold pred_Both.f pred_Both.core pred_Both.fin
    rw [if_pos (by omega), if_neg (by omega), if_neg (by omega), if_pos rfl, hl, pAB]; rfl
  · unfold pred_Both.f pred_Both.core
    rw [if_pos (by omega), if_pos rfl, if_neg (by omega)]; rfl
  · unfold pred_Both.f pred_Both.core pred_Both.fin
    rw [if_neg (by omega), if_neg (by omega), if_pos rfl, if_neg (by omega), hl, hXY]; rfl
  · rw [hl, pAB]
  · rw [hl, e0]
  · exact holds_f ⟨(⟨#[97]⟩ : ByteArray), 3, 0, 0, (⟨#[]⟩ : ByteArray)⟩ (num40 n)
  · rw [hl, hQ]
end Go.Proofs.YtfabnapjbgamaaaGreatDoor.MPred
