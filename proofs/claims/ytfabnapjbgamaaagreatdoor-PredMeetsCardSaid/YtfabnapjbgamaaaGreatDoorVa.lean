import Derived.Shelf.Strings.Builder1
import Derived.Shelf.Strings.Builder2
import Derived.Shelf.Strings.OnBuilder
import Derived.Shelf.Small.Strs
import Derived.Shelf.Strings.BuilderF
import Derived.Shelf.Strings.BuilderK
import Derived.Shelf.Utf8.RuneCount
import Derived.Shelf.Strings.Builder2Cap
import Derived.Shelf.Strconv.Itoa0
import Derived.Shelf.Strconv.Itoa1
import Derived.Shelf.LaysM
import Derived.Shelf.Strconv.Itoa2
import Derived.Shelf.Strconv.Itoa3
import Derived.Shelf.Strings.Search1
import Derived.Shelf.Strings.Search2
import Derived.Shelf.Strings.Search3
import Derived.Shelf.Strings.Count
import Derived.Shelf.Strings.Shaped
import Derived.Shelf.Strings.Prefix
import Derived.Shelf.Strings.Split
import Derived.Shelf.Strings.RuneCount
import Derived.Shelf.Strings.BuilderCap
import Derived.Test.YtfabnapjbgamaaaGreatDoorProg
import Derived.Tactics
import Derived.Tactics2
import Derived.Defers
import Derived.Laws.Pointers
import Derived.Laws.LoneSync
import Derived.RegionTactic
import Derived.RegionCalls
import Derived.ChangeAlike
import Derived.WalkKit
import Derived.WalkSpells
import Derived.Deep.MidRow
import Derived.Below
import Derived.Test.YtfabnapjbgamaaaGreatDoorV
import Derived.Laws.MakeOwn
import Derived.Laws.BytesString
import Derived.Laws.IdiomStrings
import Derived.Lib.ConvBytes
import Derived.Maps.AppendAt
import Derived.Deep.CutBlock
import Derived.Deep.WholeRow
import Derived.Laws.CopyRow
import Derived.Lib.LazyBuf
import Derived.Lib.SmallJoins
import Derived.Lib.AppendIntMem
import Derived.Laws.Concat
/-
  DERIVED: THE SHELF's CONTRACTS AT THIS DUMP, IN PLAIN WORDS (tools/lay-plain.mjs out of 'TryzShelf.lean', which tools/lay-shelf.mjs wrote): THE SAME DECLARATIONS UNDER THE SAME NAMES: 'import', 'namespace', 'open', 'def', 'theorem' AND NOTHING ELSE: no command of the shelf's: FOR A HAND-IN. Each laying: the table of numbers ('.._ren') and one theorem, a field a fact of the dump's own or the kernel's comparison; each contract: ONE APPLICATION.
-/
namespace Go.Proofs
open Go.Shelf
def Tryz.lays156_ren : Go.Shelf.Ren := ⟨fun | 156 => 34 | 165 => 50 | 166 => 51 | 169 => 52 | 240 => 63 | 241 => 64 | 276 => 71 | 277 => 72 | n => n, fun | 31 => 56 | 9 => 9 | 3 => 3 | 4 => 4 | 0 => 0 | 20 => 20 | 72 => 92 | 76 => 94 | 70 => 89 | 37 => 90 | 75 => 27 | 127 => 121 | 164 => 108 | 5 => 5 | 80 => 96 | n => n, fun | n => n⟩
theorem Tryz.lays156 : Go.Proofs.Lays.n156 Tryz.prog Tryz.lays156_ren := {
  mixed := by kernel_rfl
  f156 := Tryz.func34.trans (congrArg some (by kernel_rfl))
  f165 := Tryz.func50.trans (congrArg some (by kernel_rfl))
  f166 := Tryz.func51.trans (congrArg some (by kernel_rfl))
  f169 := Tryz.func52.trans (congrArg some (by kernel_rfl))
  f240 := Tryz.func63.trans (congrArg some (by kernel_rfl))
  f241 := Tryz.func64.trans (congrArg some (by kernel_rfl))
  f276 := Tryz.func71.trans (congrArg some (by kernel_rfl))
  f277 := Tryz.func72.trans (congrArg some (by kernel_rfl))
  t0 := Tryz.underlying0
  a0 := Tryz.isAgg0
  z0 := Tryz.sizeOf0
  v0 := Tryz.zeroValue0
  t3 := Tryz.underlying3
  a3 := Tryz.isAgg3
  z3 := Tryz.sizeOf3
  v3 := Tryz.zeroValue3
  t4 := Tryz.underlying4
  a4 := Tryz.isAgg4
  z4 := Tryz.sizeOf4
  v4 := Tryz.zeroValue4
  t9 := Tryz.underlying9
  a9 := Tryz.isAgg9
  z9 := Tryz.sizeOf9
  v9 := Tryz.zeroValue9
  t20 := Tryz.underlying20
  a20 := Tryz.isAgg20
  z20 := Tryz.sizeOf20
  v20 := Tryz.zeroValue20
  t31 := Tryz.underlying56
  a31 := Tryz.isAgg56
  z31 := Tryz.sizeOf56
  v31 := Tryz.zeroValue56
  t37 := Tryz.underlying90
  a37 := Tryz.isAgg90
  z37 := Tryz.sizeOf90
  v37 := Tryz.zeroValue90
  t70 := Tryz.underlying89
  a70 := Tryz.isAgg89
  z70 := Tryz.sizeOf89
  v70 := Tryz.zeroValue89
  t72 := Tryz.underlying92
  a72 := Tryz.isAgg92
  z72 := Tryz.sizeOf92
  v72 := Tryz.zeroValue92
  t75 := Tryz.underlying27
  a75 := Tryz.isAgg27
  z75 := Tryz.sizeOf27
  v75 := Tryz.zeroValue27
  t76 := Tryz.underlying94
  a76 := Tryz.isAgg94
  z76 := Tryz.sizeOf94
  v76 := Tryz.zeroValue94
  t127 := Tryz.underlying121
  a127 := Tryz.isAgg121
  z127 := Tryz.sizeOf121
  v127 := Tryz.zeroValue121
  t164 := Tryz.underlying108
  a164 := Tryz.isAgg108
  z164 := Tryz.sizeOf108
  v164 := Tryz.zeroValue108 }
theorem Tryz.Builder_Extra_156 : Builder.Extra Tryz.prog Tryz.lays156_ren := {
  sizeBuilder := by kernel_rfl
  liesBuilder := by kernel_rfl
  t5 := Tryz.underlying5
  a5 := Tryz.isAgg5
  z5 := Tryz.sizeOf5
  v5 := Tryz.zeroValue5
  infoByte := by kernel_rfl
  cellsByte := by kernel_rfl
  sizeByte := by kernel_rfl
  neB5 := by decide }
open Go.RowKit in
/-- No element: the empty string; the world is as it was. (Whatever the slice's address and capacity: a nil slice too.) (LAID: no walk: one application.) -/
theorem Tryz.strings_Join_none (a : Option Addr) (c : Nat) (sep : ByteArray) (w : World) :
    Calls Tryz.prog 34 #[.slice a 0 c, .string sep] w fun e w' => e = .returned (.string ⟨#[]⟩) ∧ w' = w := Any.strings_Join_none Tryz.lays156 Tryz.Builder_Extra_156 a c sep w
open Go.RowKit in
/-- strings.Join: "Join concatenates the elements of its first argument to create a single string. The separator string sep is placed between elements in the resulting string.": HOWEVER MANY ELEMENTS. Below the heap's end the world is as it was. (LAID: no walk: one application.) -/
theorem Tryz.strings_Join (bk o c : Nat) (xs : List ByteArray) (sep : ByteArray) (w : World) (hcells : ∀ (j : Nat) x, xs[j]? = some x → w.cell? ⟨bk, o + j, none⟩ = some (.string x)) (hbk : bk < w.heap.size) (hN : xs.length ≤ 140737488355328) (hcap : xs.length ≤ c) (hlen : (Lib.join (xs.map (·.data.toList)) sep.data.toList).length ≤ 140737488355328) :
    Calls Tryz.prog 34 #[.slice (some ⟨bk, o, none⟩) xs.length c, .string sep] w fun e w' => e = .returned (.string ⟨(Lib.join (xs.map (·.data.toList)) sep.data.toList).toArray⟩) ∧ Below w.heap.size w w' := Any.strings_Join Tryz.lays156 Tryz.Builder_Extra_156 bk o c xs sep w hcells hbk hN hcap hlen
def Tryz.laysM171_ren : Go.Shelf.Ren := ⟨fun | 171 => 48 | 243 => 60 | 246 => 68 | 283 => 73 | 284 => 74 | 285 => 75 | 286 => 76 | 129 => 81 | 317 => 80 | 318 => 82 | 319 => 83 | 320 => 84 | 337 => 91 | 338 => 92 | n => n, fun | 3 => 3 | 9 => 9 | 2 => 2 | 4 => 4 | 171 => 148 | 0 => 0 | 53 => 149 | 37 => 90 | 5 => 5 | 173 => 152 | 212 => 158 | 51 => 132 | 20 => 20 | 213 => 159 | 46 => 85 | 232 => 192 | 233 => 193 | n => n, fun | 17 => 2 | 18 => 3 | 19 => 4 | n => n⟩
theorem Tryz.laysM171 : Go.Proofs.LaysM.n171 Tryz.prog Tryz.laysM171_ren := {
  mixed := by kernel_rfl
  f129 := Tryz.func81.trans (congrArg some (by kernel_rfl))
  f171 := Tryz.func48.trans (congrArg some (by kernel_rfl))
  f243 := Tryz.func60.trans (congrArg some (by kernel_rfl))
  f246 := Tryz.func68.trans (congrArg some (by kernel_rfl))
  f283 := Tryz.func73.trans (congrArg some (by kernel_rfl))
  f284 := Tryz.func74.trans (congrArg some (by kernel_rfl))
  f285 := Tryz.func75.trans (congrArg some (by kernel_rfl))
  f286 := Tryz.func76.trans (congrArg some (by kernel_rfl))
  f317 := Tryz.func80.trans (congrArg some (by kernel_rfl))
  f318 := Tryz.func82.trans (congrArg some (by kernel_rfl))
  f319 := Tryz.func83.trans (congrArg some (by kernel_rfl))
  f320 := Tryz.func84.trans (congrArg some (by kernel_rfl))
  f337 := Tryz.func91.trans (congrArg some (by kernel_rfl))
  f338 := Tryz.func92.trans (congrArg some (by kernel_rfl))
  t0 := Tryz.underlying0
  a0 := Tryz.isAgg0
  z0 := Tryz.sizeOf0
  v0 := Tryz.zeroValue0
  t2 := Tryz.underlying2
  a2 := Tryz.isAgg2
  z2 := Tryz.sizeOf2
  v2 := Tryz.zeroValue2
  t3 := Tryz.underlying3
  a3 := Tryz.isAgg3
  z3 := Tryz.sizeOf3
  v3 := Tryz.zeroValue3
  t4 := Tryz.underlying4
  a4 := Tryz.isAgg4
  z4 := Tryz.sizeOf4
  v4 := Tryz.zeroValue4
  t5 := Tryz.underlying5
  a5 := Tryz.isAgg5
  z5 := Tryz.sizeOf5
  v5 := Tryz.zeroValue5
  t9 := Tryz.underlying9
  a9 := Tryz.isAgg9
  z9 := Tryz.sizeOf9
  v9 := Tryz.zeroValue9
  t20 := Tryz.underlying20
  a20 := Tryz.isAgg20
  z20 := Tryz.sizeOf20
  v20 := Tryz.zeroValue20
  t37 := Tryz.underlying90
  a37 := Tryz.isAgg90
  z37 := Tryz.sizeOf90
  v37 := Tryz.zeroValue90
  t46 := Tryz.underlying85
  a46 := Tryz.isAgg85
  z46 := Tryz.sizeOf85
  v46 := Tryz.zeroValue85
  t51 := Tryz.underlying132
  a51 := Tryz.isAgg132
  z51 := Tryz.sizeOf132
  v51 := Tryz.zeroValue132
  t53 := Tryz.underlying149
  a53 := Tryz.isAgg149
  z53 := Tryz.sizeOf149
  v53 := Tryz.zeroValue149
  t171 := Tryz.underlying148
  a171 := Tryz.isAgg148
  z171 := Tryz.sizeOf148
  v171 := Tryz.zeroValue148
  t173 := Tryz.underlying152
  a173 := Tryz.isAgg152
  z173 := Tryz.sizeOf152
  v173 := Tryz.zeroValue152
  t212 := Tryz.underlying158
  a212 := Tryz.isAgg158
  z212 := Tryz.sizeOf158
  v212 := Tryz.zeroValue158
  t213 := Tryz.underlying159
  a213 := Tryz.isAgg159
  z213 := Tryz.sizeOf159
  t232 := Tryz.underlying192
  a232 := Tryz.isAgg192
  z232 := Tryz.sizeOf192
  v232 := Tryz.zeroValue192
  t233 := Tryz.underlying193
  a233 := Tryz.isAgg193
  z233 := Tryz.sizeOf193
  v233 := Tryz.zeroValue193
  g17 := by kernel_rfl
  g18 := by kernel_rfl
  g19 := by kernel_rfl
  i0 := by kernel_rfl
  i2 := by kernel_rfl
  i3 := by kernel_rfl
  i4 := by kernel_rfl
  i5 := by kernel_rfl
  i9 := by kernel_rfl
  i20 := by kernel_rfl
  i37 := by kernel_rfl
  i46 := by kernel_rfl
  i51 := by kernel_rfl
  i53 := by kernel_rfl
  i171 := by kernel_rfl
  i173 := by kernel_rfl
  i212 := by kernel_rfl
  i232 := by kernel_rfl
  i233 := by kernel_rfl
  m17 := by kernel_rfl
  m18 := by kernel_rfl
  m19 := by kernel_rfl }
open Go.RowKit Go.Sort Go.Lib in
/-- strconv.Itoa: "Itoa is equivalent to FormatInt(int64(i), 10).": i's DECIMAL NUMERAL ('Lib.itoa': a '-' where i is negative, then the digits), FOR EVERY int. The world behind the call: the world before it, new blocks behind the heap (the library's 'var a [24]byte'), draws. (LAID: no walk: one application.) -/
theorem Tryz.strconv_Itoa (n : Int) (h0 : -9223372036854775808 ≤ n) (h1 : n ≤ 9223372036854775807) (w : World) (htab : Lib.TabIs Tryz.prog w "internal/strconv.uint64pow10" .u64 Lib.pow10Tab) :
    Calls Tryz.prog 48 #[.int .i64 n] w fun e w' => e = .returned (.string ⟨(Lib.itoa n).toArray⟩) ∧ ∃ k os, w' = grow (w.drewN k) os := Any.strconv_Itoa Tryz.laysM171 n h0 h1 w htab
end Go.Proofs
namespace Go.Proofs.YtfabnapjbgamaaaGreatDoor.Val
open Go.RowKit Go.Proofs.YtfabnapjbgamaaaGreatDoorW.PrintWords
set_option linter.unusedVariables false
set_option linter.unusedSimpArgs false
theorem disable (w : World) : (callFunc 99 #[]).run Tryz.prog w = .ok (.value (.tuple #[])) w := run_call_mark0 Tryz.func99 (by kernel_rfl) (by kernel_rfl) (by kernel_rfl) .disable (by kernel_rfl) w
theorem enable (w : World) : (callFunc 101 #[]).run Tryz.prog w = .ok (.value (.tuple #[])) w := run_call_mark0 Tryz.func101 (by kernel_rfl) (by kernel_rfl) (by kernel_rfl) .enable (by kernel_rfl) w
theorem acquire (a : Addr) (w : World) : (callFunc 102 #[.pointer (some a)]).run Tryz.prog w = .ok (.value (.tuple #[])) w := run_call_marked Tryz.func102 (by kernel_rfl) (by kernel_rfl) (by kernel_rfl) .acquire (by kernel_rfl) a w
theorem releaseMerge (a : Addr) (w : World) : (callFunc 104 #[.pointer (some a)]).run Tryz.prog w = .ok (.value (.tuple #[])) w := run_call_marked Tryz.func104 (by kernel_rfl) (by kernel_rfl) (by kernel_rfl) .releaseMerge (by kernel_rfl) a w

set_option maxRecDepth 1000000 in
set_option maxHeartbeats 1600000 in
/-- '(*sync/atomic.Bool).Store(true)', ENTERED AS A DEFERRED CALL: the cell holds 1. -/
theorem store_deferred (a : Addr) (x : Value) (u : FrameMode) (w : World) (hc : w.cell? a = some x) (hz : w.frozen? a = false) :
    CallsD Tryz.prog 88 #[.pointer (some a), .bool true] u w fun e u' w' => u' = u ∧ (e = .returned (.tuple #[]) ∧ w' = w.drew.setCell a (.int .u32 1)) := by
  have hc' : w.drew.cell? a = some x := by go_simp
  have hz' : w.drew.frozen? a = false := by go_simp
  have hst := run_call_store (P := Tryz.prog) Tryz.func95 (by kernel_rfl) (by kernel_rfl) (by kernel_rfl) (by kernel_rfl) (k := .u32) (y := 1) hc' hz'
  go_enter_d Tryz.func88, Tryz.ntmps88
  go_wp2
  go_region_calls
  all_goals (go_end0; exact ⟨rfl, rfl⟩)

set_option maxRecDepth 1000000 in
set_option maxHeartbeats 1600000 in
/-- '(*sync.Mutex).Unlock', ENTERED AS A DEFERRED CALL, the lock held and nobody waiting (state 1): state 0. -/
theorem unlock_deferred (a : Addr) (u : FrameMode) (w : World) (hc : w.cell? a = some (.int .i32 1)) (hz : w.frozen? a = false) :
    CallsD Tryz.prog 87 #[.pointer (some a)] u w fun e u' w' => u' = u ∧ (e = .returned (.tuple #[]) ∧ w' = w.setCell a (.int .i32 0)) := by
  have hd := disable
  have he := enable
  have hr := releaseMerge
  have hadd := run_call_add (P := Tryz.prog) Tryz.func105 (by kernel_rfl) (by kernel_rfl) (by kernel_rfl) .i32 (by kernel_rfl) (y := -1) (s := 0) hc hz (by simp [go_sem]; rfl)
  have hcv := run_convert_to_unsafe (P := Tryz.prog) (src := 194) (dst := 108) Tryz.underlying194 Tryz.underlying108 (by kernel_rfl) hc
  go_enter_d Tryz.func87, Tryz.ntmps87
  go_wp2
  go_end0
  go_wp2
  go_end0
  exact ⟨rfl, rfl⟩

set_option maxRecDepth 1000000 in
set_option maxHeartbeats 1600000 in
/-- '(*sync.Mutex).Lock', the lock free (state 0): state 1. A CONTRACT, to be met at the call ('go_at_call F?9'). -/
theorem lock_free (a : Addr) (w : World) (hc : w.cell? a = some (.int .i32 0)) (hz : w.frozen? a = false) :
    Calls Tryz.prog 86 #[.pointer (some a)] w fun e w' => e = .returned (.tuple #[]) ∧ w' = w.setCell a (.int .i32 1) := by
  have hd := disable
  have he := enable
  have ha := acquire
  have hcas := run_call_cas_hit (P := Tryz.prog) Tryz.func100 (by kernel_rfl) (by kernel_rfl) (by kernel_rfl) .i32 (by kernel_rfl) (y := 1) hc hz
  have hc' : (w.setCell a (.int .i32 1)).cell? a = some (.int .i32 1) := World.cell?_setCell_same w a _ hc
  have hcv := run_convert_to_unsafe (P := Tryz.prog) (src := 194) (dst := 108) Tryz.underlying194 Tryz.underlying108 (by kernel_rfl) hc'
  go_enter Tryz.func86, Tryz.ntmps86
  go_wp2
  first | go_end0 | (simp only [Exit.inBlock, Exit.then]; refine bodyPost_ret (results_none rfl _ _ _) rfl ?_) | refine bodyPost_ret (results_none rfl _ _ _) rfl ?_
  go_wp2
  go_end0
  exact ⟨rfl, rfl⟩

/-- '(*sync.Once).doSlow', not yet done and the lock free: the function handed in is the bound method 48 of p. -/
def OnceAt (w : World) (b off : Nat) : Prop :=
  w.cell? ⟨b, off, none⟩ = some (.int .u32 0) ∧ w.cell? ⟨b, off + 1, none⟩ = some (.int .i32 0) ∧ w.frozen? ⟨b, off, none⟩ = false ∧ w.frozen? ⟨b, off + 1, none⟩ = false
set_option maxRecDepth 1000000 in
set_option maxHeartbeats 1600000 in
theorem slow_any (b off : Nat) (p : Value) (R : World → Prop) (w : World)
    (h0 : w.cell? ⟨b, off, none⟩ = some (.int .u32 0)) (h1 : w.cell? ⟨b, off + 1, none⟩ = some (.int .i32 0))
    (f0 : w.frozen? ⟨b, off, none⟩ = false) (f1 : w.frozen? ⟨b, off + 1, none⟩ = false)
    (hf : Calls Tryz.prog 70 #[p] (w.setCell ⟨b, off + 1, none⟩ (.int .i32 1)) fun e w' => e = .returned (.tuple #[]) ∧ R w')
    (hR : ∀ w', R w' → w'.cell? ⟨b, off, none⟩ = some (.int .u32 0) ∧ w'.cell? ⟨b, off + 1, none⟩ = some (.int .i32 1) ∧ w'.frozen? ⟨b, off, none⟩ = false ∧ w'.frozen? ⟨b, off + 1, none⟩ = false) :
    Calls Tryz.prog 78 #[.pointer (some ⟨b, off, none⟩), .func (.func 70) #[p] #[]] w fun e w' => e = .returned (.tuple #[]) ∧
      ∃ w1, R w1 ∧ w' = (w1.drew.setCell ⟨b, off, none⟩ (.int .u32 1)).setCell ⟨b, off + 1, none⟩ (.int .i32 0) := by
  have hl := run_call_load (P := Tryz.prog) Tryz.func85 (by kernel_rfl) (by kernel_rfl) (by kernel_rfl) .u32 (by kernel_rfl) (w := w.setCell ⟨b, off + 1, none⟩ (.int .i32 1)) (a := ⟨b, off, none⟩) (x := 0) ((World.cell?_setCell_other _ ⟨b, off + 1, none⟩ ⟨b, off, none⟩ _ (by simp)).trans h0)
  have hnot : ∀ (x : Bool) (w : World), (Op.unary .not (.bool x)).run Tryz.prog w = .ok (.bool (!x)) w := fun _ _ => rfl
  go_enter_defers Tryz.func78, Tryz.ntmps78
  go_wp2_with (first | (go_at_call 86; refine (lock_free ⟨b, off + 1, none⟩ _ (by go_simp) (by go_simp)).mono ?_; rintro e w' ⟨rfl, rfl⟩) | (go_at_call 77; go_in))
  refine hf.mono ?_
  rintro e w1 ⟨rfl, hR1⟩
  obtain ⟨r0, r1, r2, r3⟩ := hR w1 hR1
  go_wp2
  refine leaves_cons (f := 88) (args := #[.pointer (some ⟨b, off, none⟩), .bool true]) (by simp) (by simp [go_sem]) ?_
  refine (store_deferred ⟨b, off, none⟩ (.int .u32 0) .returning _ r0 r2).mono ?_
  rintro e u' w'' ⟨rfl, rfl, rfl⟩
  refine leaves_cons (f := 87) (args := #[.pointer (some ⟨b, off + 1, none⟩)]) (by simp [settle]) (by simp [go_sem]) ?_
  refine (unlock_deferred ⟨b, off + 1, none⟩ _ _ ?_ (by simp [r3])).mono ?_
  · refine (World.cell?_setCell_other _ ⟨b, off, none⟩ ⟨b, off + 1, none⟩ _ (by simp)).trans ?_
    rw [World.cell?_drew]
    exact r1
  rintro e u' w'' ⟨rfl, rfl, rfl⟩
  simp [Leaves, settle, results, Tryz.results78]
  exact ⟨w1, hR1, rfl⟩
set_option maxRecDepth 1000000 in
set_option maxHeartbeats 1600000 in
/-- '(*sync.Once).Do', not yet done, the lock free. -/
theorem do_first (b off : Nat) (p : Value) (R : World → Prop) (w : World)
    (h0 : w.cell? ⟨b, off, none⟩ = some (.int .u32 0)) (h1 : w.cell? ⟨b, off + 1, none⟩ = some (.int .i32 0))
    (f0 : w.frozen? ⟨b, off, none⟩ = false) (f1 : w.frozen? ⟨b, off + 1, none⟩ = false)
    (hf : Calls Tryz.prog 70 #[p] (w.setCell ⟨b, off + 1, none⟩ (.int .i32 1)) fun e w' => e = .returned (.tuple #[]) ∧ R w')
    (hR : ∀ w', R w' → w'.cell? ⟨b, off, none⟩ = some (.int .u32 0) ∧ w'.cell? ⟨b, off + 1, none⟩ = some (.int .i32 1) ∧ w'.frozen? ⟨b, off, none⟩ = false ∧ w'.frozen? ⟨b, off + 1, none⟩ = false) :
    Calls Tryz.prog 69 #[.pointer (some ⟨b, off, none⟩), .func (.func 70) #[p] #[]] w fun e w' => e = .returned (.tuple #[]) ∧
      ∃ w1, R w1 ∧ w' = (w1.drew.setCell ⟨b, off, none⟩ (.int .u32 1)).setCell ⟨b, off + 1, none⟩ (.int .i32 0) := by
  have hl := run_call_load (P := Tryz.prog) Tryz.func85 (by kernel_rfl) (by kernel_rfl) (by kernel_rfl) .u32 (by kernel_rfl) h0
  have hnot : ∀ (x : Bool) (w : World), (Op.unary .not (.bool x)).run Tryz.prog w = .ok (.bool (!x)) w := fun _ _ => rfl
  go_enter Tryz.func69, Tryz.ntmps69
  go_wp2_with (first | (go_at_call 78; refine (slow_any b off p R _ h0 h1 f0 f1 hf hR).mono ?_; rintro e w' ⟨rfl, hw⟩) | (go_at_call 77; go_in))
  go_end0
  exact ⟨rfl, hw⟩
end Go.Proofs.YtfabnapjbgamaaaGreatDoor.Val
namespace Go.Proofs.YtfabnapjbgamaaaGreatDoor.Val
open Go.RowKit Go.Proofs.YtfabnapjbgamaaaGreatDoorW.PrintWords
set_option linter.unusedVariables false
set_option linter.unusedSimpArgs false
theorem lt_blk {w : World} {g : Nat} {o : Obj} (h : w.heap[g]? = some o) : g < w.heap.size := (Array.getElem?_eq_some_iff.1 h).1
theorem cell_blk {w : World} {g : Nat} {C : Array Value} {t : TypeId} {fr : Nat × Nat} (h : w.heap[g]? = some (.cells C t fr)) (j : Nat) : w.cell? ⟨g, j, none⟩ = C[j]? := by
  unfold World.cell?
  simp only [h]
  rfl
theorem frozen_blk {w : World} {g : Nat} {C : Array Value} {t : TypeId} (h : w.heap[g]? = some (.cells C t (0, 0))) (j : Nat) : w.frozen? ⟨g, j, none⟩ = false := by
  unfold World.frozen?
  simp only [h]
  simp
theorem old_alloc {w : World} {o : Obj} {j : Nat} (h : j < w.heap.size) : (w.alloc o).heap[j]? = w.heap[j]? := (Below.heap_alloc w o j h)
theorem set_blk {w : World} {g : Nat} {C : Array Value} {t : TypeId} {fr : Nat × Nat} (h : w.heap[g]? = some (.cells C t fr)) (j : Nat) (v : Value) : (w.setCell ⟨g, j, none⟩ v).heap[g]? = some (.cells (C.setIfInBounds j v) t fr) := by
  unfold World.setCell
  simp only [Array.getElem?_modify, if_true, h, Option.map_some]
  rfl
theorem lt_of_cell {w : World} {p : Addr} {v : Value} (h : w.cell? p = some v) : p.block < w.heap.size := by
  unfold World.cell? at h
  split at h
  · rename_i hh
    exact (Array.getElem?_eq_some_iff.1 hh).1
  · cases h
abbrev S1 (a : UInt8) : Value := .string ⟨#[a]⟩
abbrev S2 (a b : UInt8) : Value := .string ⟨#[a, b]⟩
/-- A byteStringReplacer of the two rules. -/
structure BSR (w : World) (g : Nat) : Prop where
  none_ : ∀ i, i < 256 → i ≠ 34 → i ≠ 92 → w.cell? ⟨g, i, none⟩ = some (.slice none 0 0)
  at34 : ∃ b c, w.cell? ⟨g, 34, none⟩ = some (.slice (some ⟨b, 0, none⟩) 2 c) ∧ w.cell? ⟨b, 0, none⟩ = some (.int .u8 92) ∧ w.cell? ⟨b, 1, none⟩ = some (.int .u8 34)
  at92 : ∃ b c, w.cell? ⟨g, 92, none⟩ = some (.slice (some ⟨b, 0, none⟩) 2 c) ∧ w.cell? ⟨b, 0, none⟩ = some (.int .u8 92) ∧ w.cell? ⟨b, 1, none⟩ = some (.int .u8 92)
  row : ∃ A c, w.cell? ⟨g, 256, none⟩ = some (.slice A 2 c)
def Z256 : Array Value := Array.replicate 256 (.slice none 0 0)
def Z257 (v : Value) : Array Value := Z256.push v
theorem zero175 (A : Option Addr) (l c : Nat) (w : World) : (Instr.build 175 #[(1, .slice A l c)]).run Tryz.prog w = .ok (.agg (Z257 (.slice A l c))) w := by kernel_rfl
theorem alloc175 (h : Bool) (w : World) : (Instr.alloc 175 h undef).run Tryz.prog w = .ok (.pointer (some ⟨w.heap.size, 0, none⟩)) (w.alloc (.cells (Z257 (.slice none 0 0)) 175)) := by cases h <;> kernel_rfl
theorem make56 (w : World) : (Instr.makeSlice 56 (.int .i64 0) (.int .i64 2)).run Tryz.prog w = .ok (.slice (some ⟨w.heap.size, 0, none⟩) 0 2) (w.alloc (.cells #[.string ⟨#[]⟩, .string ⟨#[]⟩] 9)) := by kernel_rfl
theorem info175 : (Tryz.prog.info? 175).map (·.size) = some 257 := by kernel_rfl
theorem zc175 : Tryz.zeroCells175 = Array.replicate 257 (.slice none 0 0) := by kernel_rfl
noncomputable def L175 (v : Value) : List Value := Tryz.zeroCells175.toList.set 256 v
theorem L175_len (v : Value) : (L175 v).length = 257 := by unfold L175; rw [zc175, List.length_set, Array.toList_replicate, List.length_replicate]
theorem L175_get (v : Value) (j : Nat) (h : j < 256) : (L175 v).toArray[j]? = some (.slice none 0 0) := by
  unfold L175
  rw [zc175, List.getElem?_toArray, List.getElem?_set_ne (by omega), Array.toList_replicate, List.getElem?_replicate, if_pos (by omega)]
theorem L175_last (v : Value) : (L175 v).toArray[256]? = some v := by
  unfold L175
  rw [zc175, List.getElem?_toArray, List.getElem?_set_self (by rw [Array.toList_replicate, List.length_replicate]; omega)]
theorem L175_one (A : Option Addr) (l c : Nat) : ((L175 (.slice A l c)).toArray).all (·.oneCell') = true := by
  unfold L175
  rw [zc175, Array.all_eq_true_iff_forall_mem]
  intro x hx
  rw [List.mem_toArray] at hx
  rcases List.mem_or_eq_of_mem_set hx with h | h
  · rw [Array.toList_replicate, List.mem_replicate] at h
    rw [h.2]
    rfl
  · rw [h]
    rfl
theorem store175 (w : World) (A : Option Addr) (l c : Nat) (o : Obj) : (storeCells ⟨w.heap.size + 1, 0, none⟩ (L175 (.slice A l c)) 0).run Tryz.prog ((w.alloc o).alloc (.cells Tryz.zeroCells175 175)) = .ok () ((w.alloc o).alloc (.cells (L175 (.slice A l c)).toArray 175)) := by
  have h := run_storeCells_new (P := Tryz.prog) (w.alloc o) 175 Tryz.zeroCells175 (L175 (.slice A l c)).toArray (by rw [info175, List.size_toArray, L175_len]) (by rw [zc175, Array.size_replicate, List.size_toArray, L175_len]) (L175_one A l c)
  rw [show (w.alloc o).heap.size = w.heap.size + 1 from by simp] at h
  exact h
theorem info9 : (Tryz.prog.info? 9).map (fun i => (i.zero, i.size, i.bytes)) = some (some (.string ⟨#[]⟩), 1, 16) := by kernel_rfl
theorem run_app9 {W : World} {base k N : Nat} {v : Value} {xs : List Value} {s : ByteArray} (HO : W.ownsRow base 9 1 v k xs) (hN : W.heap[N]? = some (.cells #[.string s] 9 (0, 0))) (hbase : base ≤ W.heap.size) (hk : k ≤ 5) :
    ∃ v1 w1, (Builtin.append_ #[56, 56] 56 #[v, .slice (some ⟨N, 0, none⟩) 1 1]).run Tryz.prog W = .ok v1 w1 ∧ w1.ownsRow base 9 1 v1 (k + 1) (xs ++ [.string s]) ∧ W.grownBy w1 v.ownBlock ∧ (v1.ownBlock = v.ownBlock ∨ v1.ownBlock = some W.heap.size) := by
  obtain ⟨i0, hi, hzz⟩ := Option.map_eq_some_iff.1 info9
  simp only [Prod.mk.injEq] at hzz
  obtain ⟨hz0, hz1, hz2⟩ := hzz
  obtain ⟨v1, w1, h1, h2, h3, _, h4⟩ := run_append_own_at (P := Tryz.prog) (w := W) base 56 56 9 i0 _ 1 16 Tryz.underlying56 hi hz0 hz1 hz2 rfl (by omega) v k xs HO ⟨N, 0, none⟩ 1 1 [.string s] rfl (fun j u hu => by
    have hj : j = 0 := by
      have := (List.getElem?_eq_some_iff.1 hu).1
      simp at this
      exact this
    subst hj
    simp at hu
    subst hu
    have e : (⟨N, 0, none⟩ : Addr).add 0 = ⟨N, 0, none⟩ := by simp [Addr.add]
    rw [e]
    unfold World.cell?
    simp only [hN]
    rfl) (by simp; rfl) (by simp only [maxLen]; omega) (by omega) hbase
  exact ⟨v1, w1, h1, h2, h3, h4⟩
theorem eqnil (w : World) : (binOp .eql 90 (.slice none 0 0) (.slice none 0 0)).run Tryz.prog w = .ok (.bool true) w := by kernel_rfl
theorem convone (w : World) (o : UInt8) : (convert 90 9 (.slice (some ⟨w.heap.size, 0, none⟩) 1 1)).run Tryz.prog (w.alloc (.cells #[.int .u8 o.toNat] 5)) = .ok (.string ⟨#[o]⟩) (w.alloc (.cells #[.int .u8 o.toNat] 5)) := by
  exact run_convert_bytes_back (P := Tryz.prog) (w.alloc (.cells #[.int .u8 o.toNat] 5)) 90 9 5 ⟨w.heap.size, 0, none⟩ 1 [o] Tryz.underlying90 Tryz.underlying5 Tryz.underlying9 (fun j hj => by
    have e : j = 0 := by simp at hj; exact hj
    subst e
    have e2 : (⟨w.heap.size, 0, none⟩ : Addr).add 0 = ⟨w.heap.size, 0, none⟩ := by simp [Addr.add]
    rw [e2]
    simp)
theorem index34 (w : World) : (Instr.index 9 (S1 34) (.int .i64 0)).run Tryz.prog w = .ok (.int .u8 34) w := by kernel_rfl
theorem index92 (w : World) : (Instr.index 9 (S1 92) (.int .i64 0)).run Tryz.prog w = .ok (.int .u8 92) w := by kernel_rfl
theorem own_slice {w : World} {base e size n : Nat} {v : Value} {xs : List Value} (h : w.ownsRow base e size v n xs) : ∃ A c, v = .slice A n c := by
  rcases h.2 with ⟨rfl, h0⟩ | ⟨g, cap, cur, rfl, _⟩
  · subst h0
    exact ⟨_, _, rfl⟩
  · exact ⟨_, _, rfl⟩
theorem wpList_apprun {ops : Array Oper} {o : Oper} {rest : List Oper} {a : Act} {Q : Exit → Act → World → Prop} {W w1 : World} {v u v1 : Value} {T : TypeId} (hgd : o.guard = none) (s x : Operand)
    (ho : o.op = .call { callee := .builtin .append, args := #[s, x], argTypes := #[T, T] }) (ht : o.type = T) (hs : a.eval s = v) (hx : a.eval x = u) (hrun : (Builtin.append_ #[T, T] T #[v, u]).run Tryz.prog W = .ok v1 w1)
    (h : wpList Tryz.prog ops Q rest (a.put o.dst v1) w1) : wpList Tryz.prog ops Q (o :: rest) a W := by
  refine wpList_plain hgd fun K hK => ?_
  unfold Oper.wp execOp
  simp only [ho, ht, resolve, invoke, builtin, Sem.run_bind, Sem.run_pure, Result.andThen_ok, List.map_toArray, List.map_cons, List.map_nil, hs, hx, hrun]
  exact hK _ _ h
/-- What two bytes stand for: block b of the replacement. -/
def Byt (W : World) (own : Option Nat) (gB : Nat) (C : Array Value) (j : Nat) (x y : Int) : Prop :=
  ∃ b c D t fr, C[j]? = some (.slice (some ⟨b, 0, none⟩) 2 c) ∧ W.heap[b]? = some (.cells D t fr) ∧ D[0]? = some (.int .u8 x) ∧ D[1]? = some (.int .u8 y) ∧ own ≠ some b ∧ b ≠ gB
structure BL (w : World) (i : Int) (W : World) : Prop where
  bel : Below w.heap.size w W
  ex : ∃ (C : Array Value) (v : Value) (k : Nat) (xs : List Value), W.heap[w.heap.size + 1]? = some (.cells C 175 (0, 0)) ∧ C.size = 257 ∧ C[256]? = some v ∧ W.ownsRow w.heap.size 9 1 v k xs ∧ v.ownBlock ≠ some (w.heap.size + 1) ∧
    ((i = 2 ∧ k = 0) ∨ (i = 0 ∧ k = 1) ∨ (i = -2 ∧ k = 2)) ∧ (∀ j, j < 256 → j ≠ 34 → j ≠ 92 → C[j]? = some (.slice none 0 0)) ∧ (i = 2 → C[34]? = some (.slice none 0 0)) ∧ (0 ≤ i → C[92]? = some (.slice none 0 0)) ∧
    (i ≤ 0 → Byt W v.ownBlock (w.heap.size + 1) C 34 92 34) ∧ (i < 0 → Byt W v.ownBlock (w.heap.size + 1) C 92 92 92)
theorem bytesWorld_below (W : World) (s : ByteArray) : Below W.heap.size W (Go.Lib.bytesWorld W 5 s) where
  os := by simp [Go.Lib.bytesWorld, World.freeze, World.alloc, World.drew, -World.alloc_eq, -World.drew_eq]
  tape := by simp [Go.Lib.bytesWorld, World.freeze, World.alloc, World.drew, -World.alloc_eq, -World.drew_eq]
  output := by simp [Go.Lib.bytesWorld, World.freeze, World.alloc, World.drew, -World.alloc_eq, -World.drew_eq]
  size := by rw [Go.Lib.bytesWorld_size]; omega
  block := fun k hk => Go.Lib.bytesWorld_at_old W 5 s k hk
theorem set_far (w : World) (g j k : Nat) (v : Value) (h : k ≠ g) : (w.setCell ⟨g, j, none⟩ v).heap[k]? = w.heap[k]? := by
  unfold World.setCell
  simp only [Array.getElem?_modify]
  rw [if_neg (fun e => h e.symm)]
/-- A rule is laid: the row has its byte, the array its two bytes. -/
theorem step_facts {w wr w1 : World} {C : Array Value} {v v1 : Value} {k : Nat} {xs : List Value} {o : UInt8} {bs : Array Value} (hsz : w.heap.size + 1 < wr.heap.size) (bel : Below w.heap.size w wr) (hCs : C.size = 257) (hvg : v.ownBlock ≠ some (w.heap.size + 1))
    (hC1 : w1.heap[w.heap.size + 1]? = some (.cells C 175 (0, 0))) (hgr : ((wr.alloc (.cells bs 5)).alloc (.cells #[.string ⟨#[o]⟩] 9)).grownBy w1 v.ownBlock) (hat : v1.ownBlock = v.ownBlock ∨ v1.ownBlock = some ((wr.alloc (.cells bs 5)).alloc (.cells #[.string ⟨#[o]⟩] 9)).heap.size)
    (HO : wr.ownsRow w.heap.size 9 1 v k xs) (HO1 : w1.ownsRow w.heap.size 9 1 v1 (k + 1) (xs ++ [.string ⟨#[o]⟩])) (j : Nat) (hj : j < 256) (c : Nat) :
    ((Go.Lib.bytesWorld (w1.setCell ⟨w.heap.size + 1, 256, none⟩ v1) 5 ⟨#[92, o]⟩).setCell ⟨w.heap.size + 1, j, none⟩ (.slice (some ⟨w1.heap.size, 0, none⟩) 2 c)).heap[w.heap.size + 1]? = some (.cells ((C.setIfInBounds 256 v1).setIfInBounds j (.slice (some ⟨w1.heap.size, 0, none⟩) 2 c)) 175 (0, 0)) ∧
    Below w.heap.size w ((Go.Lib.bytesWorld (w1.setCell ⟨w.heap.size + 1, 256, none⟩ v1) 5 ⟨#[92, o]⟩).setCell ⟨w.heap.size + 1, j, none⟩ (.slice (some ⟨w1.heap.size, 0, none⟩) 2 c)) ∧
    ((Go.Lib.bytesWorld (w1.setCell ⟨w.heap.size + 1, 256, none⟩ v1) 5 ⟨#[92, o]⟩).setCell ⟨w.heap.size + 1, j, none⟩ (.slice (some ⟨w1.heap.size, 0, none⟩) 2 c)).ownsRow w.heap.size 9 1 v1 (k + 1) (xs ++ [.string ⟨#[o]⟩]) ∧
    v1.ownBlock ≠ some (w.heap.size + 1) ∧
    Byt ((Go.Lib.bytesWorld (w1.setCell ⟨w.heap.size + 1, 256, none⟩ v1) 5 ⟨#[92, o]⟩).setCell ⟨w.heap.size + 1, j, none⟩ (.slice (some ⟨w1.heap.size, 0, none⟩) 2 c)) v1.ownBlock (w.heap.size + 1) ((C.setIfInBounds 256 v1).setIfInBounds j (.slice (some ⟨w1.heap.size, 0, none⟩) 2 c)) j 92 o.toNat ∧
    (∀ q x y, q < 256 → q ≠ j → Byt wr v.ownBlock (w.heap.size + 1) C q x y → Byt ((Go.Lib.bytesWorld (w1.setCell ⟨w.heap.size + 1, 256, none⟩ v1) 5 ⟨#[92, o]⟩).setCell ⟨w.heap.size + 1, j, none⟩ (.slice (some ⟨w1.heap.size, 0, none⟩) 2 c)) v1.ownBlock (w.heap.size + 1) ((C.setIfInBounds 256 v1).setIfInBounds j (.slice (some ⟨w1.heap.size, 0, none⟩) 2 c)) q x y) := by
  have hs2 : ((wr.alloc (.cells bs 5)).alloc (.cells #[.string ⟨#[o]⟩] 9)).heap.size = wr.heap.size + 2 := by simp
  have hs1 : wr.heap.size + 2 ≤ w1.heap.size := by have := hgr.size; rw [hs2] at this; exact this
  have hbs := bel.size
  have hset : (w1.setCell ⟨w.heap.size + 1, 256, none⟩ v1).heap.size = w1.heap.size := by unfold World.setCell; simp
  have hold : ∀ q, q < w1.heap.size → q ≠ w.heap.size + 1 → ((Go.Lib.bytesWorld (w1.setCell ⟨w.heap.size + 1, 256, none⟩ v1) 5 ⟨#[92, o]⟩).setCell ⟨w.heap.size + 1, j, none⟩ (.slice (some ⟨w1.heap.size, 0, none⟩) 2 c)).heap[q]? = w1.heap[q]? := fun q hq hne => by
    rw [set_far _ _ _ _ _ hne, Go.Lib.bytesWorld_at_old _ _ _ _ (by rw [hset]; exact hq), set_far _ _ _ _ _ hne]
  have hgrow : ∀ q, q < wr.heap.size → v.ownBlock ≠ some q → w1.heap[q]? = wr.heap[q]? := fun q hq hne => by
    rw [hgr.block q (by rw [hs2]; omega) (fun e => hne e.symm), old_alloc (by simp; omega), old_alloc hq]
  have hv1 : v1.ownBlock ≠ some (w.heap.size + 1) := by
    rcases hat with e | e
    · rw [e]; exact hvg
    · rw [e, hs2]
      intro h
      injection h with h
      omega
  have hB1 : Below w.heap.size w w1 := by
    refine Below.grown (B := w.heap.size) (((bel.alloc hbs _).alloc (by simp; omega) _)) hgr (by rw [hs2]; omega) (fun q hq => ?_)
    rcases HO.2 with ⟨rfl, _⟩ | ⟨g, cap, cur, rfl, hb, _⟩
    · simp [Value.ownBlock] at hq
    · have : g = q := by simpa [Value.ownBlock] using hq
      omega
  refine ⟨?_, ?_, ?_, hv1, ?_, ?_⟩
  · refine set_blk ?_ j _
    rw [Go.Lib.bytesWorld_at_old _ _ _ _ (by rw [hset]; exact lt_blk hC1)]
    exact set_blk hC1 256 v1
  · refine Below.setCell ?_ (by simp) _
    refine (hB1.setCell (by simp) _).trans ((bytesWorld_below _ _).mono ?_)
    rw [hset]
    omega
  · refine own_move HO1 (fun q hq => hold q (own_lt HO1 q hq) (fun e => hv1 (e ▸ hq)))
  · refine ⟨w1.heap.size, c, Go.Lib.bytesCells (w1.setCell ⟨w.heap.size + 1, 256, none⟩ v1) 5 ⟨#[92, o]⟩, 5, ((Go.Lib.bytesCells (w1.setCell ⟨w.heap.size + 1, 256, none⟩ v1) 5 ⟨#[92, o]⟩).size, (Go.Lib.bytesCells (w1.setCell ⟨w.heap.size + 1, 256, none⟩ v1) 5 ⟨#[92, o]⟩).size + 1), ?_, ?_, ?_, ?_, ?_, by have := lt_blk hC1; omega⟩
    · rw [Array.getElem?_setIfInBounds_self_of_lt (by simp [hCs]; omega)]
    · rw [set_far _ _ _ _ _ (by have := lt_blk hC1; omega), ← hset]
      exact Go.Lib.bytesWorld_at_new _ _ _
    · unfold Go.Lib.bytesCells
      rw [Array.getElem?_append_left (by simp)]
      simp
    · unfold Go.Lib.bytesCells
      rw [Array.getElem?_append_left (by simp)]
      simp
    · intro e
      have := own_lt HO1 _ e
      omega
  · rintro q x y hq hne ⟨b, c2, D, t, fr, h1, h2, h3, h4, h5, h6⟩
    have hb := lt_blk h2
    refine ⟨b, c2, D, t, fr, ?_, ?_, h3, h4, ?_, h6⟩
    · rw [Array.getElem?_setIfInBounds_ne (by omega), Array.getElem?_setIfInBounds_ne (by omega)]
      exact h1
    · rw [hold b (by omega) h6, hgrow b hb h5]
      exact h2
    · rcases hat with e | e
      · rw [e]; exact h5
      · rw [e, hs2]
        intro h
        injection h with h
        omega
theorem bl_start (w : World) : BL w 2 ((w.alloc (.cells #[.string ⟨#[]⟩, .string ⟨#[]⟩] 9)).alloc (.cells (L175 (.slice (some ⟨w.heap.size, 0, none⟩) 0 2)).toArray 175)) := by
  have hb : Below w.heap.size w ((w.alloc (.cells #[.string ⟨#[]⟩, .string ⟨#[]⟩] 9)).alloc (.cells (L175 (.slice (some ⟨w.heap.size, 0, none⟩) 0 2)).toArray 175)) := ((Below.refl _ _).alloc (Nat.le_refl _) _).alloc (by simp) _
  have h1 := heap_alloc_last (w.alloc (.cells #[.string ⟨#[]⟩, .string ⟨#[]⟩] 9)) (.cells (L175 (.slice (some ⟨w.heap.size, 0, none⟩) 0 2)).toArray 175)
  rw [show (w.alloc (.cells #[.string ⟨#[]⟩, .string ⟨#[]⟩] 9)).heap.size = w.heap.size + 1 from by simp] at h1
  have h2 : ((w.alloc (.cells #[.string ⟨#[]⟩, .string ⟨#[]⟩] 9)).alloc (.cells (L175 (.slice (some ⟨w.heap.size, 0, none⟩) 0 2)).toArray 175)).heap[w.heap.size]? = some (.cells #[.string ⟨#[]⟩, .string ⟨#[]⟩] 9 (0, 0)) := (old_alloc (by simp)).trans (heap_alloc_last w _)
  refine ⟨hb, _, _, 0, [], h1, by rw [List.size_toArray, L175_len], L175_last _, ⟨rfl, .inr ⟨w.heap.size, 2, _, rfl, Nat.le_refl _, h2, Nat.zero_le _, by simp [maxLen], rfl, rfl⟩⟩, ?_, .inl ⟨rfl, rfl⟩, fun j h _ _ => L175_get _ j h, fun _ => L175_get _ 34 (by omega), fun _ => L175_get _ 92 (by omega), fun h => by omega, fun h => by omega⟩
  intro e
  simp [Value.ownBlock] at e
set_option maxRecDepth 1000000 in
set_option maxHeartbeats 1600000 in
theorem build_calls (g a c : Nat) (w : World) (hc : 4 ≤ c) (h4 : w.cell? ⟨g, 4, none⟩ = some (.slice (some ⟨a, 0, none⟩) 4 c))
    (x0 : w.cell? ⟨a, 0, none⟩ = some (S1 92)) (x1 : w.cell? ⟨a, 1, none⟩ = some (S2 92 92)) (x2 : w.cell? ⟨a, 2, none⟩ = some (S1 34)) (x3 : w.cell? ⟨a, 3, none⟩ = some (S2 92 34)) :
    Calls Tryz.prog 79 #[.pointer (some ⟨g, 0, none⟩)] w fun e w' => ∃ gB, e = .returned (.iface 176 (.pointer (some ⟨gB, 0, none⟩))) ∧ BSR w' gB ∧ w.heap.size ≤ gB ∧ Below w.heap.size w w' := by
  have hu144 := Tryz.underlying144
  go_enter Tryz.func79, Tryz.ntmps79
  go_wp2
  go_loop [4, 5] (fun s4 s5 => (s4 = .bool true ∧ s5 = .int .i64 0) ∨ (s4 = .bool false ∧ s5 = .int .i64 2) ∨ (s4 = .bool false ∧ s5 = .int .i64 4)) (fun _ s5 => (4 - (intOf s5)).toNat)
  case atStart => exact .inl ⟨rfl, rfl⟩
  case round =>
    rcases hrel with ⟨rfl, rfl⟩ | ⟨rfl, rfl⟩ | ⟨rfl, rfl⟩
    · go_wp2
      go_round
      case rel => exact .inr (.inl ⟨rfl, rfl⟩)
      case measure => simp [intOf]
    · go_wp2
      go_round
      case rel => exact .inr (.inr ⟨rfl, rfl⟩)
      case measure => simp [intOf]
    · have hz := zero175
      have hal := alloc175
      have hmk := make56
      have hst := fun (A : Option Addr) (l c : Nat) (o : Obj) => store175 w A l c o
      unfold L175 at hst
      go_upto_region 26 with (fail)
      go_wp2
      have hat0 : Aside0 (BL w 2 ((w.alloc (.cells #[.string ⟨#[]⟩, .string ⟨#[]⟩] 9)).alloc (.cells (L175 (.slice (some ⟨w.heap.size, 0, none⟩) 0 2)).toArray 175))) := ⟨bl_start w⟩
      go_loopw [12] (fun s12 wr => ∃ i : Int, s12 = .int .i64 i ∧ (i = 2 ∨ i = 0 ∨ i = -2) ∧ Aside0 (BL w i wr)) (fun s12 _ => (intOf s12 + 2).toNat)
      case atStart => exact ⟨2, rfl, .inl rfl, hat0⟩
      case round =>
        clear hat0 hz hal hmk hst
        obtain ⟨i, rfl, hi, HB⟩ := hrel
        rcases hi with rfl | rfl | rfl
        · obtain ⟨bel, C, v, k, xs, hC, hCs, hCv, HO, hvg, hk, hno, h34, h92, hb34, hb92⟩ := HB.out
          clear HB
          have hsz := lt_blk hC
          have hal := lt_of_cell x0
          have y2 : wr.cell? ⟨a, 2, none⟩ = some (S1 34) := (bel.cell (p := ⟨a, 2, none⟩) hal).trans x2
          have y3 : wr.cell? ⟨a, 3, none⟩ = some (S2 92 34) := (bel.cell (p := ⟨a, 3, none⟩) hal).trans x3
          have cv : wr.cell? ⟨w.heap.size + 1, 256, none⟩ = some v := (cell_blk hC 256).trans hCv
          have co : wr.cell? ⟨w.heap.size + 1, 34, none⟩ = some (.slice none 0 0) := (cell_blk hC 34).trans (h34 rfl)
          have hN := Aside0.mk (h34 rfl)
          have H92 := Aside0.mk h92
          have HB34 := Aside0.mk hb34
          have HNO := Aside0.mk hno
          clear h34 h92 hb34 hb92 hno
          have hkk : k = 0 := by omega
          subst hkk
          have HO2 : ((wr.alloc (.cells #[.int .u8 34] 5)).alloc (.cells #[.string ⟨#[34]⟩] 9)).ownsRow w.heap.size 9 1 v 0 xs := (HO.alloc _).alloc _
          have hbs := bel.size
          obtain ⟨v1, w1, hrun, HO1, hgr, hat⟩ := run_app9 (N := wr.heap.size + 1) (s := ⟨#[34]⟩) HO2 (by have h_ := heap_alloc_last (wr.alloc (.cells #[.int .u8 34] 5)) (.cells #[.string ⟨#[34]⟩] 9); simpa using h_) (by simp; omega) (by omega)
          obtain ⟨A1, c1, rfl⟩ := own_slice HO1
          have HO1 := Aside0.mk HO1
          have HO := Aside0.mk HO
          have hvb : v.ownBlock ≠ some (w.heap.size + 1) := hvg
          have hC1 : w1.heap[w.heap.size + 1]? = some (.cells C 175 (0, 0)) := (hgr.block _ (by simp; omega) (fun e => hvg e.symm)).trans ((old_alloc (by simp; omega)).trans ((old_alloc hsz).trans hC))
          have cv1 : w1.cell? ⟨w.heap.size + 1, 256, none⟩ = some v := (cell_blk hC1 256).trans hCv
          have f1 : w1.frozen? ⟨w.heap.size + 1, 256, none⟩ = false := frozen_blk hC1 256
          have hz1 : wr.heap.size + 2 ≤ w1.heap.size := by have := hgr.size; simp at this; exact this
          have HGR := Aside0.mk hgr
          clear HO2 hgr
          have hbyte := index34
          have hnil := eqnil
          have hcb : (convert 90 9 (.slice (some ⟨wr.heap.size, 0, none⟩) 1 1)).run Tryz.prog (wr.alloc (.cells #[.int .u8 34] 5)) = .ok (.string ⟨#[34]⟩) (wr.alloc (.cells #[.int .u8 34] 5)) := convone wr 34
          have HRUN := Aside0.mk hrun
          clear hrun
          go_upto_region 34 with (at_builtin; refine wpList_apprun rfl (.tmp 119) (.tmp 123) rfl rfl (by rfl) (by rfl) HRUN.out ?_)
          have hC2 : (w1.setCell ⟨w.heap.size + 1, 256, none⟩ (.slice A1 (0 + 1) c1)).heap[w.heap.size + 1]? = some (.cells (C.setIfInBounds 256 (.slice A1 (0 + 1) c1)) 175 (0, 0)) := set_blk hC1 256 (.slice A1 (0 + 1) c1)
          have hcv : (convert 9 90 (.string ⟨#[92, 34]⟩)).run Tryz.prog (w1.setCell ⟨w.heap.size + 1, 256, none⟩ (.slice A1 (0 + 1) c1)) = .ok (.slice (some ⟨w1.heap.size, 0, none⟩) 2 (grownCap (w1.setCell ⟨w.heap.size + 1, 256, none⟩ (.slice A1 (0 + 1) c1)) 2 0 5)) (Go.Lib.bytesWorld (w1.setCell ⟨w.heap.size + 1, 256, none⟩ (.slice A1 (0 + 1) c1)) 5 ⟨#[92, 34]⟩) := by
            have h_ := Go.Lib.run_convert_string_bytes (P := Tryz.prog) (w1.setCell ⟨w.heap.size + 1, 256, none⟩ (.slice A1 (0 + 1) c1)) 9 90 5 ⟨#[92, 34]⟩ Tryz.underlying9 Tryz.underlying90 Tryz.underlying5
            rw [show (w1.setCell ⟨w.heap.size + 1, 256, none⟩ (.slice A1 (0 + 1) c1)).heap.size = w1.heap.size by unfold World.setCell; simp] at h_
            exact h_
          obtain ⟨q1, q2, q3, q4, q5, q6⟩ := step_facts hsz bel hCs hvg hC1 HGR.out hat HO.out HO1.out 34 (by omega) (grownCap (w1.setCell ⟨w.heap.size + 1, 256, none⟩ (.slice A1 (0 + 1) c1)) 2 0 5)
          have hC3 : (Go.Lib.bytesWorld (w1.setCell ⟨w.heap.size + 1, 256, none⟩ (.slice A1 (0 + 1) c1)) 5 ⟨#[92, 34]⟩).heap[w.heap.size + 1]? = some (.cells (C.setIfInBounds 256 (.slice A1 (0 + 1) c1)) 175 (0, 0)) := ((bytesWorld_below _ _).block _ (lt_blk hC2)).trans hC2
          generalize grownCap (w1.setCell ⟨w.heap.size + 1, 256, none⟩ (.slice A1 (0 + 1) c1)) 2 0 5 = cp at hcv q1 q2 q3 q4 q5 q6
          have e3 : (Go.Lib.bytesWorld (w1.setCell ⟨w.heap.size + 1, 256, none⟩ (.slice A1 (0 + 1) c1)) 5 ⟨#[92, 34]⟩).cell? ⟨w.heap.size + 1, 34, none⟩ = some (.slice none 0 0) := (cell_blk hC3 34).trans (by rw [Array.getElem?_setIfInBounds_ne (by omega)]; exact hN.out)
          have f3 : (Go.Lib.bytesWorld (w1.setCell ⟨w.heap.size + 1, 256, none⟩ (.slice A1 (0 + 1) c1)) 5 ⟨#[92, 34]⟩).frozen? ⟨w.heap.size + 1, 34, none⟩ = false := frozen_blk hC3 34
          have hBN : Aside0 (BL w (2 - 2) ((Go.Lib.bytesWorld (w1.setCell ⟨w.heap.size + 1, 256, none⟩ (.slice A1 (0 + 1) c1)) 5 ⟨#[92, 34]⟩).setCell ⟨w.heap.size + 1, 34, none⟩ (.slice (some ⟨w1.heap.size, 0, none⟩) 2 cp))) := ⟨q2, _, (.slice A1 (0 + 1) c1), 0 + 1, _, q1, by simp [hCs], by rw [Array.getElem?_setIfInBounds_ne (by omega), Array.getElem?_setIfInBounds_self_of_lt (by omega)], q3, q4, by omega,
            fun j h1 h2 h3 => by rw [Array.getElem?_setIfInBounds_ne (by omega), Array.getElem?_setIfInBounds_ne (by omega)]; exact HNO.out j h1 h2 h3, fun h => by omega, fun h => by rw [Array.getElem?_setIfInBounds_ne (by omega), Array.getElem?_setIfInBounds_ne (by omega)]; exact H92.out (by omega), fun h => q5, fun h => by omega⟩
          clear q1 q2 q3 q4 q5 q6 hC2 hC3 HGR HO HO1 bel HNO H92 HB34 hN hat hC hC1 hvg hvb
          go_wp2
          go_roundw
          case rel => exact ⟨2 - 2, by rfl, by omega, hBN⟩
          case measure => simp [intOf]
        · obtain ⟨bel, C, v, k, xs, hC, hCs, hCv, HO, hvg, hk, hno, h34, h92, hb34, hb92⟩ := HB.out
          clear HB
          have hsz := lt_blk hC
          have hal := lt_of_cell x0
          have y2 : wr.cell? ⟨a, 0, none⟩ = some (S1 92) := (bel.cell (p := ⟨a, 0, none⟩) hal).trans x0
          have y3 : wr.cell? ⟨a, 1, none⟩ = some (S2 92 92) := (bel.cell (p := ⟨a, 1, none⟩) hal).trans x1
          have cv : wr.cell? ⟨w.heap.size + 1, 256, none⟩ = some v := (cell_blk hC 256).trans hCv
          have co : wr.cell? ⟨w.heap.size + 1, 92, none⟩ = some (.slice none 0 0) := (cell_blk hC 92).trans (h92 (by omega))
          have hN := Aside0.mk (h92 (by omega))
          have H92 := Aside0.mk h92
          have HB34 := Aside0.mk hb34
          have HNO := Aside0.mk hno
          clear h34 h92 hb34 hb92 hno
          have hkk : k = 1 := by omega
          subst hkk
          have HO2 : ((wr.alloc (.cells #[.int .u8 92] 5)).alloc (.cells #[.string ⟨#[92]⟩] 9)).ownsRow w.heap.size 9 1 v 1 xs := (HO.alloc _).alloc _
          have hbs := bel.size
          obtain ⟨v1, w1, hrun, HO1, hgr, hat⟩ := run_app9 (N := wr.heap.size + 1) (s := ⟨#[92]⟩) HO2 (by have h_ := heap_alloc_last (wr.alloc (.cells #[.int .u8 92] 5)) (.cells #[.string ⟨#[92]⟩] 9); simpa using h_) (by simp; omega) (by omega)
          obtain ⟨A1, c1, rfl⟩ := own_slice HO1
          have HO1 := Aside0.mk HO1
          have HO := Aside0.mk HO
          have hvb : v.ownBlock ≠ some (w.heap.size + 1) := hvg
          have hC1 : w1.heap[w.heap.size + 1]? = some (.cells C 175 (0, 0)) := (hgr.block _ (by simp; omega) (fun e => hvg e.symm)).trans ((old_alloc (by simp; omega)).trans ((old_alloc hsz).trans hC))
          have cv1 : w1.cell? ⟨w.heap.size + 1, 256, none⟩ = some v := (cell_blk hC1 256).trans hCv
          have f1 : w1.frozen? ⟨w.heap.size + 1, 256, none⟩ = false := frozen_blk hC1 256
          have hz1 : wr.heap.size + 2 ≤ w1.heap.size := by have := hgr.size; simp at this; exact this
          have HGR := Aside0.mk hgr
          clear HO2 hgr
          have hbyte := index92
          have hnil := eqnil
          have hcb : (convert 90 9 (.slice (some ⟨wr.heap.size, 0, none⟩) 1 1)).run Tryz.prog (wr.alloc (.cells #[.int .u8 92] 5)) = .ok (.string ⟨#[92]⟩) (wr.alloc (.cells #[.int .u8 92] 5)) := convone wr 92
          have HRUN := Aside0.mk hrun
          clear hrun
          go_upto_region 34 with (at_builtin; refine wpList_apprun rfl (.tmp 119) (.tmp 123) rfl rfl (by rfl) (by rfl) HRUN.out ?_)
          have hC2 : (w1.setCell ⟨w.heap.size + 1, 256, none⟩ (.slice A1 (1 + 1) c1)).heap[w.heap.size + 1]? = some (.cells (C.setIfInBounds 256 (.slice A1 (1 + 1) c1)) 175 (0, 0)) := set_blk hC1 256 (.slice A1 (1 + 1) c1)
          have hcv : (convert 9 90 (.string ⟨#[92, 92]⟩)).run Tryz.prog (w1.setCell ⟨w.heap.size + 1, 256, none⟩ (.slice A1 (1 + 1) c1)) = .ok (.slice (some ⟨w1.heap.size, 0, none⟩) 2 (grownCap (w1.setCell ⟨w.heap.size + 1, 256, none⟩ (.slice A1 (1 + 1) c1)) 2 0 5)) (Go.Lib.bytesWorld (w1.setCell ⟨w.heap.size + 1, 256, none⟩ (.slice A1 (1 + 1) c1)) 5 ⟨#[92, 92]⟩) := by
            have h_ := Go.Lib.run_convert_string_bytes (P := Tryz.prog) (w1.setCell ⟨w.heap.size + 1, 256, none⟩ (.slice A1 (1 + 1) c1)) 9 90 5 ⟨#[92, 92]⟩ Tryz.underlying9 Tryz.underlying90 Tryz.underlying5
            rw [show (w1.setCell ⟨w.heap.size + 1, 256, none⟩ (.slice A1 (1 + 1) c1)).heap.size = w1.heap.size by unfold World.setCell; simp] at h_
            exact h_
          obtain ⟨q1, q2, q3, q4, q5, q6⟩ := step_facts hsz bel hCs hvg hC1 HGR.out hat HO.out HO1.out 92 (by omega) (grownCap (w1.setCell ⟨w.heap.size + 1, 256, none⟩ (.slice A1 (1 + 1) c1)) 2 0 5)
          have hC3 : (Go.Lib.bytesWorld (w1.setCell ⟨w.heap.size + 1, 256, none⟩ (.slice A1 (1 + 1) c1)) 5 ⟨#[92, 92]⟩).heap[w.heap.size + 1]? = some (.cells (C.setIfInBounds 256 (.slice A1 (1 + 1) c1)) 175 (0, 0)) := ((bytesWorld_below _ _).block _ (lt_blk hC2)).trans hC2
          generalize grownCap (w1.setCell ⟨w.heap.size + 1, 256, none⟩ (.slice A1 (1 + 1) c1)) 2 0 5 = cp at hcv q1 q2 q3 q4 q5 q6
          have e3 : (Go.Lib.bytesWorld (w1.setCell ⟨w.heap.size + 1, 256, none⟩ (.slice A1 (1 + 1) c1)) 5 ⟨#[92, 92]⟩).cell? ⟨w.heap.size + 1, 92, none⟩ = some (.slice none 0 0) := (cell_blk hC3 92).trans (by rw [Array.getElem?_setIfInBounds_ne (by omega)]; exact hN.out)
          have f3 : (Go.Lib.bytesWorld (w1.setCell ⟨w.heap.size + 1, 256, none⟩ (.slice A1 (1 + 1) c1)) 5 ⟨#[92, 92]⟩).frozen? ⟨w.heap.size + 1, 92, none⟩ = false := frozen_blk hC3 92
          have hBN : Aside0 (BL w (0 - 2) ((Go.Lib.bytesWorld (w1.setCell ⟨w.heap.size + 1, 256, none⟩ (.slice A1 (1 + 1) c1)) 5 ⟨#[92, 92]⟩).setCell ⟨w.heap.size + 1, 92, none⟩ (.slice (some ⟨w1.heap.size, 0, none⟩) 2 cp))) := ⟨q2, _, (.slice A1 (1 + 1) c1), 1 + 1, _, q1, by simp [hCs], by rw [Array.getElem?_setIfInBounds_ne (by omega), Array.getElem?_setIfInBounds_self_of_lt (by omega)], q3, q4, by omega,
            fun j h1 h2 h3 => by rw [Array.getElem?_setIfInBounds_ne (by omega), Array.getElem?_setIfInBounds_ne (by omega)]; exact HNO.out j h1 h2 h3, fun h => by omega, fun h => by omega, fun h => q6 34 _ _ (by omega) (by omega) (HB34.out (by omega)), fun h => q5⟩
          clear q1 q2 q3 q4 q5 q6 hC2 hC3 HGR HO HO1 bel HNO H92 HB34 hN hat hC hC1 hvg hvb
          go_wp2
          go_roundw
          case rel => exact ⟨0 - 2, by rfl, by omega, hBN⟩
          case measure => simp [intOf]
        · obtain ⟨bel, C, v, k, xs, hC, hCs, hCv, HO, hvg, hk, hno, h34, h92, hb34, hb92⟩ := HB.out
          have hkk : k = 2 := by omega
          subst hkk
          have hbsr : Aside0 (BSR wr (w.heap.size + 1)) := ⟨{
            none_ := fun j h1 h2 h3 => (cell_blk hC j).trans (hno j h1 h2 h3)
            at34 := by
              obtain ⟨b, c2, D, t, fr, h1, h2, h3, h4, _⟩ := hb34 (by omega)
              exact ⟨b, c2, (cell_blk hC 34).trans h1, (cell_blk h2 0).trans h3, (cell_blk h2 1).trans h4⟩
            at92 := by
              obtain ⟨b, c2, D, t, fr, h1, h2, h3, h4, _⟩ := hb92 (by omega)
              exact ⟨b, c2, (cell_blk hC 92).trans h1, (cell_blk h2 0).trans h3, (cell_blk h2 1).trans h4⟩
            row := by
              obtain ⟨A_, c_, e_⟩ := own_slice HO
              exact ⟨A_, c_, (cell_blk hC 256).trans (hCv.trans (congrArg some e_))⟩ }⟩
          have HBE := Aside0.mk bel
          clear HB bel hC hCs hCv HO hvg hno h34 h92 hb34 hb92
          go_wp2
          go_ret
          exact ⟨_, rfl, hbsr.out, by omega, HBE.out⟩
end Go.Proofs.YtfabnapjbgamaaaGreatDoor.Val
namespace Go.Proofs.YtfabnapjbgamaaaGreatDoor.Val
open Go.Proofs.YtfabnapjbgamaaaGreatDoorW.PrintLast Go.RowKit Go.Proofs.YtfabnapjbgamaaaGreatDoorW.PrintWords
set_option linter.unusedVariables false
set_option linter.unusedSimpArgs false
/-! ### (*strings.byteStringReplacer).Replace: function 176 -/
def spc (b : UInt8) : Bool := b == 34 || b == 92
def esc (l : List UInt8) : List UInt8 := l.flatMap fun b => if spc b then [92, b] else [b]
def cnt (l : List UInt8) : Nat := (l.filter spc).length
abbrev bt (s : ByteArray) (i : Nat) : UInt8 := s.data.toList.getD i 0
theorem take_bt (s : ByteArray) (i : Nat) (h : i < s.size) : s.data.toList.take (i + 1) = s.data.toList.take i ++ [bt s i] := by
  have h2 : i < s.data.toList.length := by simpa using h
  rw [List.take_succ_eq_append_getElem h2]
  unfold bt
  rw [List.getD_eq_getElem?_getD, List.getElem?_eq_getElem h2]
  rfl
theorem esc_snoc (l : List UInt8) (b : UInt8) : esc (l ++ [b]) = esc l ++ if spc b then [92, b] else [b] := by unfold esc; rw [List.flatMap_append]; simp
theorem cnt_snoc (l : List UInt8) (b : UInt8) : cnt (l ++ [b]) = cnt l + if spc b then 1 else 0 := by unfold cnt; rw [List.filter_append]; cases h : spc b <;> simp [h]
theorem esc_len (l : List UInt8) : (esc l).length = l.length + cnt l := by
  induction l with
  | nil => rfl
  | cons b t ih =>
    have e1 : esc (b :: t) = (if spc b then [92, b] else [b]) ++ esc t := by unfold esc; rw [List.flatMap_cons]
    have e2 : cnt (b :: t) = cnt t + if spc b then 1 else 0 := by unfold cnt; cases h : spc b <;> simp [h]
    rw [e1, e2, List.length_append, ih]
    cases h : spc b <;> simp <;> omega
theorem esc_none (l : List UInt8) (h : cnt l = 0) : esc l = l := by
  induction l with
  | nil => rfl
  | cons b t ih =>
    have e1 : esc (b :: t) = (if spc b then [92, b] else [b]) ++ esc t := by unfold esc; rw [List.flatMap_cons]
    have e2 : cnt (b :: t) = cnt t + if spc b then 1 else 0 := by unfold cnt; cases h : spc b <;> simp [h]
    rw [e2] at h
    cases hb : spc b
    · rw [hb] at h
      rw [e1, hb, ih (by simpa using h)]
      rfl
    · rw [hb] at h
      simp at h
theorem cnt_le (l : List UInt8) : cnt l ≤ l.length := List.length_filter_le _ _
theorem cnt_take (l : List UInt8) (i : Nat) : cnt (l.take i) ≤ i := Nat.le_trans (cnt_le _) (by rw [List.length_take]; omega)
theorem index_bt (s : ByteArray) (i : Nat) (h : i < s.size) (w : World) : (Instr.index 9 (.string s) (.int .i64 i)).run Tryz.prog w = .ok (.int .u8 (bt s i).toNat) w := by
  have h0 : (0 : Int) ≤ (i : Int) := by omega
  have h2 : i < s.data.toList.length := by simpa using h
  have e : bt s i = s[i] := by
    unfold bt
    rw [List.getD_eq_getElem?_getD, List.getElem?_eq_getElem h2]
    rfl
  rw [e]
  go_simp
theorem neqnil (w : World) (a : Option Addr) (l c : Nat) : (binOp .neq 90 (.slice a l c) (.slice none 0 0)).run Tryz.prog w = .ok (.bool (!a.isNone)) w := Go.run_neq_slice_nil w 90 5 a l c Tryz.underlying90
theorem BSR.below {w w1 : World} {g : Nat} (h : BSR w g) (hb : Below w.heap.size w w1) : BSR w1 g where
  none_ := fun i h1 h2 h3 => (hb.cell (p := ⟨g, i, none⟩) (lt_of_cell (h.none_ i h1 h2 h3))).trans (h.none_ i h1 h2 h3)
  at34 := by
    obtain ⟨b, c, h1, h2, h3⟩ := h.at34
    exact ⟨b, c, (hb.cell (p := ⟨g, 34, none⟩) (lt_of_cell h1)).trans h1, (hb.cell (p := ⟨b, 0, none⟩) (lt_of_cell h2)).trans h2, (hb.cell (p := ⟨b, 1, none⟩) (lt_of_cell h3)).trans h3⟩
  at92 := by
    obtain ⟨b, c, h1, h2, h3⟩ := h.at92
    exact ⟨b, c, (hb.cell (p := ⟨g, 92, none⟩) (lt_of_cell h1)).trans h1, (hb.cell (p := ⟨b, 0, none⟩) (lt_of_cell h2)).trans h2, (hb.cell (p := ⟨b, 1, none⟩) (lt_of_cell h3)).trans h3⟩
  row := by
    obtain ⟨A, c, h1⟩ := h.row
    exact ⟨A, c, (hb.cell (p := ⟨g, 256, none⟩) (lt_of_cell h1)).trans h1⟩
abbrev vb (b : UInt8) : Value := .int .u8 b.toNat
theorem cnt_mono (l : List UInt8) (i : Nat) : cnt (l.take i) ≤ cnt l := (((List.take_sublist i l).filter spc).length_le)
theorem info5 : (Tryz.prog.info? 5).map (fun i => (i.zero, i.size, i.bytes)) = some (some (.int .u8 0), 1, 1) := by kernel_rfl
theorem make90 (n : Nat) (h : n ≤ 1000) (w : World) : (Instr.makeSlice 90 (.int .i64 (n : Int)) (.int .i64 (n : Int))).run Tryz.prog w = .ok (.slice (some ⟨w.heap.size, 0, none⟩) n n) (w.alloc (.cells (madeCells #[.int .u8 0] n) 5)) := by
  obtain ⟨i0, hi, hzz⟩ := Option.map_eq_some_iff.1 info5
  simp only [Prod.mk.injEq] at hzz
  obtain ⟨hz0, hz1, hz2⟩ := hzz
  have h1 := run_makeSlice (P := Tryz.prog) (w := w) 90 5 i0 _ Tryz.underlying90 hi hz0 .i64 .i64 (n : Int) (n : Int) (by omega) (Int.le_refl _) (by rw [hz1]; omega) (by rw [hz2]; omega) (by omega)
  rw [hz1, Int.toNat_natCast, Nat.mul_one] at h1
  exact h1
/-- What loop 3 keeps: the bytes laid so far. -/
structure RB (w : World) (s : ByteArray) (m i q : Nat) (W : World) : Prop where
  bel : Below w.heap.size w W
  ex : ∃ D : Array Value, W.heap[w.heap.size]? = some (.cells D 5 (0, 0)) ∧ D.size = s.size + m ∧ D.toList.take q = (esc (s.data.toList.take i)).map vb
  len : q = i + cnt (s.data.toList.take i)
theorem rb_put {w W : World} {s : ByteArray} {m i q : Nat} (h : RB w s m i q W) (hi : i < s.size) (hc : spc (bt s i) = false) (hm : m = cnt s.data.toList) (v : Value) (hv : v = vb (bt s i)) : RB w s m (i + 1) (q + 1) (W.setCell ⟨w.heap.size, q, none⟩ v) := by
  obtain ⟨bel, ⟨D, h1, h2, h3⟩, h4⟩ := h
  have hq : q < D.size := by have := cnt_mono s.data.toList i; omega
  have e := take_bt s i hi
  refine ⟨bel.setCell (Nat.le_refl _) _, ⟨_, set_blk h1 q v, by simp [h2], ?_⟩, ?_⟩
  · rw [e, esc_snoc, hc, List.map_append, ← h3, Array.toList_setIfInBounds, List.take_succ_eq_append_getElem (by simp; exact hq), List.getElem_set_self, List.take_set, List.set_eq_of_length_le (by simp; omega), hv]
    rfl
  · rw [e, cnt_snoc, hc, h4]
    simp; omega
theorem rb_two {w W : World} {s : ByteArray} {m i q : Nat} (h : RB w s m i q W) (hi : i < s.size) (hc : spc (bt s i) = true) (hm : m = cnt s.data.toList) (D : Array Value) (hD : W.heap[w.heap.size]? = some (.cells D 5 (0, 0))) (v : Value) (hv : v = vb (bt s i)) :
    RB w s m (i + 1) (q + 2) (W.setRow w.heap.size (D.toList.take q ++ [Value.int .u8 92, v] ++ D.toList.drop (q + 2)).toArray) ∧ q + 2 ≤ D.size := by
  obtain ⟨bel, ⟨D2, h1, h2, h3⟩, h4⟩ := h
  rw [hD] at h1
  obtain rfl : D = D2 := by injection h1 with h1; injection h1
  have e := take_bt s i hi
  have hct : cnt (s.data.toList.take (i + 1)) = cnt (s.data.toList.take i) + 1 := by rw [e, cnt_snoc, hc]; rfl
  have hq : q + 2 ≤ D.size := by have := cnt_mono s.data.toList (i + 1); omega
  have hl : (D.toList.take q).length = q := by rw [List.length_take]; simp; omega
  refine ⟨⟨?_, ⟨_, setRow_heap W _ D _ 5 _ hD, ?_, ?_⟩, ?_⟩, hq⟩
  · refine bel.trans ⟨rfl, rfl, rfl, by simp [World.setRow], fun k hk => ?_⟩
    unfold World.setRow
    simp only [Array.getElem?_modify]
    rw [if_neg (by omega)]
  · simp
    omega
  · rw [List.append_assoc, List.take_append, hl, List.take_of_length_le (by omega)]
    rw [e, esc_snoc, hc, List.map_append, ← h3, hv, show q + 2 - q = 2 by omega]
    rfl
  · rw [hct, h4]
    omega
theorem slice68 (g n q : Nat) (hq : q < n) (W : World) : (Instr.slice 90 (.slice (some ⟨g, 0, none⟩) n n) (some (.int .i64 (q : Int))) none none).run Tryz.prog W = .ok (.slice (some ⟨g, q, none⟩) (n - q) (n - q)) W := by
  obtain ⟨i0, hi, hzz⟩ := Option.map_eq_some_iff.1 info5
  simp only [Prod.mk.injEq] at hzz
  have h := cut_from (P := Tryz.prog) 90 5 .i64 Tryz.underlying90 hi 1 hzz.2.1 (some ⟨g, 0, none⟩) n n (q : Int) (by omega) (by omega) W
  rw [Int.toNat_natCast, if_neg (by omega), Nat.mul_one, Option.map_some, add_plain] at h
  exact h
theorem copy68 {W : World} {g q n b c : Nat} {x : Int} {D : Array Value} (hD : W.heap[g]? = some (.cells D 5 (0, 0))) (h0 : W.cell? ⟨b, 0, none⟩ = some (.int .u8 92)) (h1 : W.cell? ⟨b, 1, none⟩ = some (.int .u8 x)) (hq : q + 2 ≤ n) (hn : D.size = n) :
    (Builtin.copy_ #[90, 90] 3 #[.slice (some ⟨g, q, none⟩) (n - q) (n - q), .slice (some ⟨b, 0, none⟩) 2 c]).run Tryz.prog W = .ok (.int .i64 2) (W.setRow g (D.toList.take q ++ [Value.int .u8 92, Value.int .u8 x] ++ D.toList.drop (q + 2)).toArray) := by
  have h := run_copy_row (P := Tryz.prog) W 90 90 3 5 g q (n - q) (n - q) ⟨b, 0, none⟩ 2 c D 5 [Value.int .u8 92, Value.int .u8 x] Tryz.underlying90 (by kernel_rfl) hD (by show 2 = Nat.min 2 (n - q); exact (Nat.min_eq_left (by omega)).symm) (fun j v hj => ?_) (by simp; omega) (by intro v hv; simp at hv; rcases hv with rfl | rfl <;> rfl)
  · exact h
  · rw [add_plain]
    match j, hj with
    | 0, hj => simp at hj; rw [← hj]; exact h0
    | 1, hj => simp at hj; rw [← hj]; exact h1
theorem step_copyrun {ops : Array Oper} {oi : Oper} {a : Act} {Q : Exit → Act → World → Prop} {K : Act → World → Prop} {W w1 : World} {N : Option Tmp} {v u v1 : Value} {T U : TypeId} (hw : Region.wanted oi (yielded ops a.tmps) = true) (hN : oi.dst = N) (s x : Operand) (ho : oi.op = .call { callee := .builtin .copy, args := #[s, x], argTypes := #[T, T] })
    (ht : oi.type = U) (hs : a.eval s = v) (hx : a.eval x = u) (hrun : (Builtin.copy_ #[T, T] U #[v, u]).run Tryz.prog W = .ok v1 w1) (h : K (a.put N v1) w1) :
    if Region.wanted oi (yielded ops a.tmps) = true then Oper.wp Tryz.prog oi a W K Q else K (a.put N undef) W := by
  refine value_ hw hN ?_ h
  unfold execOp
  simp only [ho, ht, resolve, invoke, builtin, Sem.run_bind, Sem.run_pure, Result.andThen_ok, List.map_toArray, List.map_cons, List.map_nil, hs, hx, hrun]
theorem rb_drew {w W : World} {s : ByteArray} {m i q g : Nat} {D : Array Value} (h : RB w s m i q (W.setRow g D)) : RB w s m i q (W.drew.setRow g D) :=
  ⟨⟨h.bel.os, h.bel.tape, h.bel.output, h.bel.size, h.bel.block⟩, h.ex, h.len⟩
set_option maxRecDepth 1000000 in
set_option maxHeartbeats 3200000 in
theorem replace_calls (g : Nat) (s : ByteArray) (w : World) (hs : s.size ≤ 15) (HB : BSR w g) :
    Calls Tryz.prog 159 #[.pointer (some ⟨g, 0, none⟩), .string s] w fun e w' => e = .returned (.string ⟨(esc s.data.toList).toArray⟩) ∧ Below w.heap.size w w' := by
  have hu175 := Tryz.underlying175
  have hu173 := Tryz.underlying173
  obtain ⟨Ar, cr, hrow⟩ := HB.row
  obtain ⟨b34, c34, p34, q34, r34⟩ := HB.at34
  obtain ⟨b92, c92, p92, q92, r92⟩ := HB.at92
  have hno := HB.none_
  have HNO := Aside0.mk hno
  clear hno HB
  have hd16 : decide ((16 : Int) ≤ (s.size : Int)) = false := by simp; omega
  have hneq := neqnil
  go_enter Tryz.func159, Tryz.ntmps159
  go_wp2
  go_loop [5, 6, 10] (fun s5 s6 s10 => ∃ i m : Nat, i ≤ s.size ∧ m ≤ i ∧ s10 = .int .i64 i ∧ s5 = .int .i64 ((s.size : Int) + (m : Int)) ∧ s6 = .bool (decide (0 < m)) ∧ Aside0 (m = cnt (s.data.toList.take i))) (fun _ _ s10 => s.size - (intOf s10).toNat)
  case atStart => exact ⟨0, 0, Nat.zero_le _, Nat.le_refl _, rfl, by simp, by simp, ⟨by simp [cnt]⟩⟩
  case round =>
    obtain ⟨i, m, hi, hmi, rfl, rfl, rfl, HM⟩ := hrel
    by_cases hlt : i < s.size
    · have hidx := index_bt s i hlt w
      have HSN : Aside0 (cnt (s.data.toList.take (i + 1)) = m + if spc (bt s i) then 1 else 0) := ⟨by rw [take_bt s i hlt, cnt_snoc, HM.out]⟩
      by_cases c1 : bt s i = 34
      · rw [c1] at hidx HSN
        have hidx2 : (Instr.index 9 (.string s) (.int .i64 i)).run Tryz.prog w = .ok (.int .u8 34) w := hidx
        have HN : Aside0 (m + 1 = cnt (s.data.toList.take (i + 1))) := ⟨HSN.out.symm⟩
        clear hidx c1 HSN HM
        go_wp2
        go_round
        case rel => exact ⟨i + 1, m + 1, by omega, by omega, by go_num, by go_num, by simp, HN⟩
        case measure => simp [intOf]; omega
      · by_cases c2 : bt s i = 92
        · rw [c2] at hidx HSN
          have hidx2 : (Instr.index 9 (.string s) (.int .i64 i)).run Tryz.prog w = .ok (.int .u8 92) w := hidx
          have HN : Aside0 (m + 1 = cnt (s.data.toList.take (i + 1))) := ⟨HSN.out.symm⟩
          clear hidx c1 c2 HSN HM
          go_wp2
          go_round
          case rel => exact ⟨i + 1, m + 1, by omega, by omega, by go_num, by go_num, by simp, HN⟩
          case measure => simp [intOf]; omega
        · have hsp : spc (bt s i) = false := by unfold spc; rw [beq_eq_false_iff_ne.2 c1, beq_eq_false_iff_ne.2 c2]; rfl
          rw [hsp] at HSN
          have HN : Aside0 (m = cnt (s.data.toList.take (i + 1))) := ⟨HSN.out.symm⟩
          have hlt8 : (bt s i).toNat < 256 := UInt8.toNat_lt _
          have hc := HNO.out (bt s i).toNat hlt8 (fun e => c1 (UInt8.toNat_inj.1 e)) (fun e => c2 (UInt8.toNat_inj.1 e))
          clear c1 c2 hsp HSN HM
          generalize (bt s i).toNat = n at hidx hlt8 hc
          go_wp2
          go_round
          case rel => exact ⟨i + 1, m, by omega, by omega, by go_num, rfl, rfl, HN⟩
          case measure => simp [intOf]; omega
    · obtain rfl : i = s.size := by omega
      by_cases h0 : 0 < m
      · have hmk := make90 (s.size + m) (by omega) w
        rw [Int.natCast_add] at hmk
        have hM : Aside0 (m = cnt s.data.toList) := ⟨by have h_ := HM.out; rw [List.take_of_length_le (by simp)] at h_; exact h_⟩
        have hat0 : Aside0 (RB w s m 0 0 (w.alloc (.cells (madeCells #[.int .u8 0] (s.size + m)) 5))) := ⟨{ bel := (Below.refl _ _).alloc (Nat.le_refl _) _, ex := ⟨_, heap_alloc_last w _, by rw [size_madeCells], by simp [esc]⟩, len := by simp [cnt] }⟩
        clear HM
        have P34 := Aside0.mk p34
        have P92 := Aside0.mk p92
        have Q34 := Aside0.mk q34
        have Q92 := Aside0.mk q92
        have R34 := Aside0.mk r34
        have R92 := Aside0.mk r92
        go_wp2
        clear hmk p34 p92 q34 q92 r34 r92
        go_loopw [13, 14] (fun s13 s14 wr => ∃ i q : Nat, i ≤ s.size ∧ q ≤ 2 * i ∧ s14 = .int .i64 i ∧ s13 = .int .i64 q ∧ Aside0 (RB w s m i q wr)) (fun _ s14 _ => s.size - (intOf s14).toNat)
        case atStart => exact ⟨0, 0, Nat.zero_le _, Nat.zero_le _, rfl, rfl, hat0⟩
        case round =>
          clear hat0
          obtain ⟨i, q, hi, hqi, rfl, rfl, HB⟩ := hrel
          by_cases hlt : i < s.size
          · obtain ⟨bel, ⟨D, hD, hDs, hDt⟩, hql0⟩ := HB.out
            have hql := Aside0.mk hql0
            clear hql0
            have hmm : ((s.size + m : Nat) : Int) ≤ 100 := by omega
            have hidx := index_bt s i hlt wr
            have hno1 := Aside0.mk (fun j h1 h2 h3 => (bel.cell (p := ⟨g, j, none⟩) (lt_of_cell (HNO.out j h1 h2 h3))).trans (HNO.out j h1 h2 h3))
            by_cases k43 : bt s i = 34
            · skip
              rw [k43] at hidx
              have hidx2 : (Instr.index 9 (.string s) (.int .i64 i)).run Tryz.prog wr = .ok (.int .u8 34) wr := hidx
              have hcell : wr.cell? ⟨g, 34, none⟩ = some (.slice (some ⟨b34, 0, none⟩) 2 c34) := (bel.cell (p := ⟨g, 34, none⟩) (lt_of_cell P34.out)).trans P34.out
              have hx0 := Aside0.mk ((bel.cell (p := ⟨b34, 0, none⟩) (lt_of_cell Q34.out)).trans Q34.out)
              have hx1 := Aside0.mk ((bel.cell (p := ⟨b34, 1, none⟩) (lt_of_cell R34.out)).trans R34.out)
              have hsp : spc (bt s i) = true := by unfold spc; rw [k43]; rfl
              have HT := Aside0.mk (rb_two HB.out hlt hsp hM.out D hD (.int .u8 34) (by rw [k43]; rfl))
              have hq2 : q + 2 ≤ s.size + m := by have := HT.out.2; omega
              have hsl := slice68 w.heap.size (s.size + m) q (by omega)
              rw [Int.natCast_add] at hmm
              have HD := Aside0.mk hD
              clear hidx k43 hsp hD hDt
              go_upto_region 28 with (fail)
              refine start_ (n := 13) (S := fun w' => w'.cell? ⟨g, 34, none⟩ = some (.slice (some ⟨b34, 0, none⟩) 2 c34) ∧ True) (ds := [10]) #[false, false, false, false, false, false, false, false, false, false, false, false, false] (by kernel_rfl) rfl rfl ⟨hcell, trivial⟩ (fun hHeld => ?_)
              refine pure_ (i := 0) (N := (some 102)) (v := ?_) (a' := ?_) #[true, false, false, false, false, false, false, false, false, false, false, false, false] rfl rfl (by kernel_rfl) (fun _ _ _ h => h) (Or.inl ⟨by rfl, ?_⟩) ?_ ?_
              rotate_left
              · intro w'
                go_simp
                with_reducible rfl
              rotate_left
              · simp only [Act.put, List.setIfInBounds_toArray, List.set_cons_zero, List.set_cons_succ, i64_w, i32_w]
                rfl
              refine pure_ (i := 1) (N := (some 103)) (v := ?_) (a' := ?_) #[true, true, false, false, false, false, false, false, false, false, false, false, false] rfl rfl (by kernel_rfl) (fun _ _ _ h => h) (Or.inl ⟨by rfl, ?_⟩) ?_ ?_
              rotate_left
              · intro w'
                go_simp
                with_reducible rfl
              rotate_left
              · simp only [Act.put, List.setIfInBounds_toArray, List.set_cons_zero, List.set_cons_succ, i64_w, i32_w]
                rfl
              refine pure_ (i := 2) (N := (some 104)) (v := ?_) (a' := ?_) #[true, true, true, false, false, false, false, false, false, false, false, false, false] rfl rfl (by kernel_rfl) (fun _ _ _ h => h) (Or.inl ⟨by rfl, ?_⟩) ?_ ?_
              rotate_left
              · intro w'
                go_simp
                with_reducible rfl
              rotate_left
              · simp only [Act.put, List.setIfInBounds_toArray, List.set_cons_zero, List.set_cons_succ, i64_w, i32_w]
                rfl
              refine pure_ (i := 3) (N := (some 105)) (v := ?_) (a' := ?_) #[true, true, true, true, false, false, false, false, false, false, false, false, false] rfl rfl (by kernel_rfl) (fun _ _ _ h => h) (Or.inl ⟨by rfl, ?_⟩) ?_ ?_
              rotate_left
              · intro w'
                go_simp
                with_reducible rfl
              rotate_left
              · simp only [Act.put, List.setIfInBounds_toArray, List.set_cons_zero, List.set_cons_succ, i64_w, i32_w]
                rfl
              refine pure_ (i := 4) (N := (some 106)) (v := ?_) (a' := ?_) #[true, true, true, true, true, false, false, false, false, false, false, false, false] rfl rfl (by kernel_rfl) (fun _ _ _ h => h) (Or.inl ⟨by rfl, ?_⟩) ?_ ?_
              rotate_left
              · intro w'
                go_simp
                with_reducible rfl
              rotate_left
              · simp only [Act.put, List.setIfInBounds_toArray, List.set_cons_zero, List.set_cons_succ, i64_w, i32_w]
                rfl
              refine pure_ (i := 5) (N := (some 107)) (v := ?_) (a' := ?_) #[true, true, true, true, true, true, false, false, false, false, false, false, false] rfl rfl (by kernel_rfl) (fun _ _ _ h => h) (Or.inl ⟨by rfl, ?_⟩) ?_ ?_
              rotate_left
              · intro w'
                go_simp
                with_reducible rfl
              rotate_left
              · simp only [Act.put, List.setIfInBounds_toArray, List.set_cons_zero, List.set_cons_succ, i64_w, i32_w]
                rfl
              refine pure_ (i := 6) (N := (some 108)) (v := ?_) (a' := ?_) #[true, true, true, true, true, true, true, false, false, false, false, false, false] rfl rfl (by kernel_rfl) (fun _ _ _ h => h) (Or.inl ⟨by rfl, ?_⟩) ?_ ?_
              rotate_left
              · intro w'
                go_simp
                with_reducible rfl
              rotate_left
              · simp only [Act.put, List.setIfInBounds_toArray, List.set_cons_zero, List.set_cons_succ, i64_w, i32_w]
                rfl
              refine pure_ (i := 7) (N := (some 109)) (v := ?_) (a' := ?_) #[true, true, true, true, true, true, true, true, false, false, false, false, false] rfl rfl (by kernel_rfl) (fun _ _ _ h => h) (Or.inl ⟨by rfl, ?_⟩) ?_ ?_
              rotate_left
              · intro w'
                go_simp
                with_reducible rfl
              rotate_left
              · simp only [Act.put, List.setIfInBounds_toArray, List.set_cons_zero, List.set_cons_succ, i64_w, i32_w]
                rfl
              refine pure_ (i := 8) (N := (some 110)) (v := ?_) (a' := ?_) #[true, true, true, true, true, true, true, true, true, false, false, false, false] rfl rfl (by kernel_rfl) (fun _ _ _ h => h) (Or.inl ⟨by rfl, ?_⟩) ?_ ?_
              rotate_left
              · intro w'
                go_simp
                with_reducible rfl
              rotate_left
              · simp only [Act.put, List.setIfInBounds_toArray, List.set_cons_zero, List.set_cons_succ, i64_w, i32_w]
                rfl
              refine take_ (i := 9) (N := (some 111)) (v := ?_) (a' := ?_) #[true, true, true, true, true, true, true, true, true, true, false, false, false] rfl rfl (by kernel_rfl) (fun _ _ _ h => h) (Or.inl ⟨by rfl, ?_⟩) hHeld ?_ ?_
              rotate_left
              · rintro w' ⟨s0, s1⟩
                go_simp
                with_reducible rfl
              rotate_left
              · simp only [Act.put, List.setIfInBounds_toArray, List.set_cons_zero, List.set_cons_succ, i64_w, i32_w]
                rfl
              refine last_ (i := 10) (N := (some 112)) #[true, true, true, true, true, true, true, true, true, true, true, false, false] rfl rfl (by kernel_rfl) (by decide) (fun K hK => ?_)
              refine step_copyrun (by rfl) rfl (.tmp 105) (.tmp 111) rfl rfl (by rfl) (by rfl) (copy68 (W := wr.drew) (g := w.heap.size) (q := q) (n := s.size + m) (b := b34) (c := c34) (x := 34) HD.out hx0.out hx1.out (by omega) (by omega)) ?_
              refine hK.out _ _ ?_
              clear hK K
              refine norm_ (a' := ?_) ?_ ?_
              rotate_left
              · show Act.put _ (some 112) _ = _
                simp only [Act.put, List.setIfInBounds_toArray, List.set_cons_zero, List.set_cons_succ, i64_w, i32_w]
                rfl
              refine pure_ (i := 11) (N := (some 113)) (v := ?_) (a' := ?_) #[true, true, true, true, true, true, true, true, true, true, true, true, false] rfl rfl (by kernel_rfl) (fun _ _ _ h => h) (Or.inl ⟨by rfl, ?_⟩) ?_ ?_
              rotate_left
              · intro w'
                go_simp
                with_reducible rfl
              rotate_left
              · simp only [Act.put, List.setIfInBounds_toArray, List.set_cons_zero, List.set_cons_succ, i64_w, i32_w]
                rfl
              refine pure_ (i := 12) (N := (some 13)) (v := ?_) (a' := ?_) #[true, true, true, true, true, true, true, true, true, true, true, true, true] rfl rfl (by kernel_rfl) (fun _ _ _ h => h) (Or.inl ⟨by rfl, ?_⟩) ?_ ?_
              rotate_left
              · intro w'
                go_simp
                with_reducible rfl
              rotate_left
              · simp only [Act.put, List.setIfInBounds_toArray, List.set_cons_zero, List.set_cons_succ, i64_w, i32_w]
                rfl
              refine done_ (by kernel_rfl) ?_
              have HN : Aside0 (RB w s m (i + 1) (q + 2) (wr.drew.setRow w.heap.size (D.toList.take q ++ [Value.int .u8 92, Value.int .u8 34] ++ D.toList.drop (q + 2)).toArray)) := ⟨rb_drew HT.out.1⟩
              generalize wr.drew.setRow w.heap.size (D.toList.take q ++ [Value.int .u8 92, Value.int .u8 34] ++ D.toList.drop (q + 2)).toArray = W2 at HN ⊢
              clear HT HD hx0 hx1 hcell hidx2 hsl HB bel
              go_wp2
              go_roundw
              case rel => exact ⟨i + 1, q + 2, by omega, by omega, by go_num, by congr 1; unfold Go.RowKit.wrap64; omega, HN⟩
              case measure => simp [intOf]; omega
            · by_cases k97 : bt s i = 92
              · skip
                rw [k97] at hidx
                have hidx2 : (Instr.index 9 (.string s) (.int .i64 i)).run Tryz.prog wr = .ok (.int .u8 92) wr := hidx
                have hcell : wr.cell? ⟨g, 92, none⟩ = some (.slice (some ⟨b92, 0, none⟩) 2 c92) := (bel.cell (p := ⟨g, 92, none⟩) (lt_of_cell P92.out)).trans P92.out
                have hx0 := Aside0.mk ((bel.cell (p := ⟨b92, 0, none⟩) (lt_of_cell Q92.out)).trans Q92.out)
                have hx1 := Aside0.mk ((bel.cell (p := ⟨b92, 1, none⟩) (lt_of_cell R92.out)).trans R92.out)
                have hsp : spc (bt s i) = true := by unfold spc; rw [k97]; rfl
                have HT := Aside0.mk (rb_two HB.out hlt hsp hM.out D hD (.int .u8 92) (by rw [k97]; rfl))
                have hq2 : q + 2 ≤ s.size + m := by have := HT.out.2; omega
                have hsl := slice68 w.heap.size (s.size + m) q (by omega)
                rw [Int.natCast_add] at hmm
                have HD := Aside0.mk hD
                clear hidx k97 hsp hD hDt
                go_upto_region 28 with (fail)
                refine start_ (n := 13) (S := fun w' => w'.cell? ⟨g, 92, none⟩ = some (.slice (some ⟨b92, 0, none⟩) 2 c92) ∧ True) (ds := [10]) #[false, false, false, false, false, false, false, false, false, false, false, false, false] (by kernel_rfl) rfl rfl ⟨hcell, trivial⟩ (fun hHeld => ?_)
                refine pure_ (i := 0) (N := (some 102)) (v := ?_) (a' := ?_) #[true, false, false, false, false, false, false, false, false, false, false, false, false] rfl rfl (by kernel_rfl) (fun _ _ _ h => h) (Or.inl ⟨by rfl, ?_⟩) ?_ ?_
                rotate_left
                · intro w'
                  go_simp
                  with_reducible rfl
                rotate_left
                · simp only [Act.put, List.setIfInBounds_toArray, List.set_cons_zero, List.set_cons_succ, i64_w, i32_w]
                  rfl
                refine pure_ (i := 1) (N := (some 103)) (v := ?_) (a' := ?_) #[true, true, false, false, false, false, false, false, false, false, false, false, false] rfl rfl (by kernel_rfl) (fun _ _ _ h => h) (Or.inl ⟨by rfl, ?_⟩) ?_ ?_
                rotate_left
                · intro w'
                  go_simp
                  with_reducible rfl
                rotate_left
                · simp only [Act.put, List.setIfInBounds_toArray, List.set_cons_zero, List.set_cons_succ, i64_w, i32_w]
                  rfl
                refine pure_ (i := 2) (N := (some 104)) (v := ?_) (a' := ?_) #[true, true, true, false, false, false, false, false, false, false, false, false, false] rfl rfl (by kernel_rfl) (fun _ _ _ h => h) (Or.inl ⟨by rfl, ?_⟩) ?_ ?_
                rotate_left
                · intro w'
                  go_simp
                  with_reducible rfl
                rotate_left
                · simp only [Act.put, List.setIfInBounds_toArray, List.set_cons_zero, List.set_cons_succ, i64_w, i32_w]
                  rfl
                refine pure_ (i := 3) (N := (some 105)) (v := ?_) (a' := ?_) #[true, true, true, true, false, false, false, false, false, false, false, false, false] rfl rfl (by kernel_rfl) (fun _ _ _ h => h) (Or.inl ⟨by rfl, ?_⟩) ?_ ?_
                rotate_left
                · intro w'
                  go_simp
                  with_reducible rfl
                rotate_left
                · simp only [Act.put, List.setIfInBounds_toArray, List.set_cons_zero, List.set_cons_succ, i64_w, i32_w]
                  rfl
                refine pure_ (i := 4) (N := (some 106)) (v := ?_) (a' := ?_) #[true, true, true, true, true, false, false, false, false, false, false, false, false] rfl rfl (by kernel_rfl) (fun _ _ _ h => h) (Or.inl ⟨by rfl, ?_⟩) ?_ ?_
                rotate_left
                · intro w'
                  go_simp
                  with_reducible rfl
                rotate_left
                · simp only [Act.put, List.setIfInBounds_toArray, List.set_cons_zero, List.set_cons_succ, i64_w, i32_w]
                  rfl
                refine pure_ (i := 5) (N := (some 107)) (v := ?_) (a' := ?_) #[true, true, true, true, true, true, false, false, false, false, false, false, false] rfl rfl (by kernel_rfl) (fun _ _ _ h => h) (Or.inl ⟨by rfl, ?_⟩) ?_ ?_
                rotate_left
                · intro w'
                  go_simp
                  with_reducible rfl
                rotate_left
                · simp only [Act.put, List.setIfInBounds_toArray, List.set_cons_zero, List.set_cons_succ, i64_w, i32_w]
                  rfl
                refine pure_ (i := 6) (N := (some 108)) (v := ?_) (a' := ?_) #[true, true, true, true, true, true, true, false, false, false, false, false, false] rfl rfl (by kernel_rfl) (fun _ _ _ h => h) (Or.inl ⟨by rfl, ?_⟩) ?_ ?_
                rotate_left
                · intro w'
                  go_simp
                  with_reducible rfl
                rotate_left
                · simp only [Act.put, List.setIfInBounds_toArray, List.set_cons_zero, List.set_cons_succ, i64_w, i32_w]
                  rfl
                refine pure_ (i := 7) (N := (some 109)) (v := ?_) (a' := ?_) #[true, true, true, true, true, true, true, true, false, false, false, false, false] rfl rfl (by kernel_rfl) (fun _ _ _ h => h) (Or.inl ⟨by rfl, ?_⟩) ?_ ?_
                rotate_left
                · intro w'
                  go_simp
                  with_reducible rfl
                rotate_left
                · simp only [Act.put, List.setIfInBounds_toArray, List.set_cons_zero, List.set_cons_succ, i64_w, i32_w]
                  rfl
                refine pure_ (i := 8) (N := (some 110)) (v := ?_) (a' := ?_) #[true, true, true, true, true, true, true, true, true, false, false, false, false] rfl rfl (by kernel_rfl) (fun _ _ _ h => h) (Or.inl ⟨by rfl, ?_⟩) ?_ ?_
                rotate_left
                · intro w'
                  go_simp
                  with_reducible rfl
                rotate_left
                · simp only [Act.put, List.setIfInBounds_toArray, List.set_cons_zero, List.set_cons_succ, i64_w, i32_w]
                  rfl
                refine take_ (i := 9) (N := (some 111)) (v := ?_) (a' := ?_) #[true, true, true, true, true, true, true, true, true, true, false, false, false] rfl rfl (by kernel_rfl) (fun _ _ _ h => h) (Or.inl ⟨by rfl, ?_⟩) hHeld ?_ ?_
                rotate_left
                · rintro w' ⟨s0, s1⟩
                  go_simp
                  with_reducible rfl
                rotate_left
                · simp only [Act.put, List.setIfInBounds_toArray, List.set_cons_zero, List.set_cons_succ, i64_w, i32_w]
                  rfl
                refine last_ (i := 10) (N := (some 112)) #[true, true, true, true, true, true, true, true, true, true, true, false, false] rfl rfl (by kernel_rfl) (by decide) (fun K hK => ?_)
                refine step_copyrun (by rfl) rfl (.tmp 105) (.tmp 111) rfl rfl (by rfl) (by rfl) (copy68 (W := wr.drew) (g := w.heap.size) (q := q) (n := s.size + m) (b := b92) (c := c92) (x := 92) HD.out hx0.out hx1.out (by omega) (by omega)) ?_
                refine hK.out _ _ ?_
                clear hK K
                refine norm_ (a' := ?_) ?_ ?_
                rotate_left
                · show Act.put _ (some 112) _ = _
                  simp only [Act.put, List.setIfInBounds_toArray, List.set_cons_zero, List.set_cons_succ, i64_w, i32_w]
                  rfl
                refine pure_ (i := 11) (N := (some 113)) (v := ?_) (a' := ?_) #[true, true, true, true, true, true, true, true, true, true, true, true, false] rfl rfl (by kernel_rfl) (fun _ _ _ h => h) (Or.inl ⟨by rfl, ?_⟩) ?_ ?_
                rotate_left
                · intro w'
                  go_simp
                  with_reducible rfl
                rotate_left
                · simp only [Act.put, List.setIfInBounds_toArray, List.set_cons_zero, List.set_cons_succ, i64_w, i32_w]
                  rfl
                refine pure_ (i := 12) (N := (some 13)) (v := ?_) (a' := ?_) #[true, true, true, true, true, true, true, true, true, true, true, true, true] rfl rfl (by kernel_rfl) (fun _ _ _ h => h) (Or.inl ⟨by rfl, ?_⟩) ?_ ?_
                rotate_left
                · intro w'
                  go_simp
                  with_reducible rfl
                rotate_left
                · simp only [Act.put, List.setIfInBounds_toArray, List.set_cons_zero, List.set_cons_succ, i64_w, i32_w]
                  rfl
                refine done_ (by kernel_rfl) ?_
                have HN : Aside0 (RB w s m (i + 1) (q + 2) (wr.drew.setRow w.heap.size (D.toList.take q ++ [Value.int .u8 92, Value.int .u8 92] ++ D.toList.drop (q + 2)).toArray)) := ⟨rb_drew HT.out.1⟩
                generalize wr.drew.setRow w.heap.size (D.toList.take q ++ [Value.int .u8 92, Value.int .u8 92] ++ D.toList.drop (q + 2)).toArray = W2 at HN ⊢
                clear HT HD hx0 hx1 hcell hidx2 hsl HB bel
                go_wp2
                go_roundw
                case rel => exact ⟨i + 1, q + 2, by omega, by omega, by go_num, by congr 1; unfold Go.RowKit.wrap64; omega, HN⟩
                case measure => simp [intOf]; omega
              · have hsp : spc (bt s i) = false := by unfold spc; rw [beq_eq_false_iff_ne.2 k43, beq_eq_false_iff_ne.2 k97]; rfl
                have hlt8 : (bt s i).toNat < 256 := UInt8.toNat_lt _
                have hc := hno1.out (bt s i).toNat hlt8 (fun e => k43 (UInt8.toNat_inj.1 e)) (fun e => k97 (UInt8.toNat_inj.1 e))
                have hq : q < s.size + m := by have := cnt_mono s.data.toList i; have := hM.out; have := hql.out; omega
                have HN : Aside0 (RB w s m (i + 1) (q + 1) (wr.setCell ⟨w.heap.size, q, none⟩ (.int .u8 (bt s i).toNat))) := ⟨rb_put HB.out hlt hsp hM.out _ rfl⟩
                have hcq : wr.cell? ⟨w.heap.size, q, none⟩ = some (D[q]'(by omega)) := (cell_blk hD q).trans (Array.getElem?_eq_getElem _)
                have hfq : wr.frozen? ⟨w.heap.size, q, none⟩ = false := frozen_blk hD q
                clear k43 k97 hsp hno1 hD hDt bel HB
                generalize (bt s i).toNat = n at hidx hlt8 hc HN
                generalize D[q] = dq at hcq
                rw [Int.natCast_add] at hmm
                go_wp2
                go_roundw
                case rel => exact ⟨i + 1, q + 1, by omega, by omega, by go_num, by go_num, HN⟩
                case measure => simp [intOf]; omega
          · obtain rfl : i = s.size := by omega
            obtain ⟨bel, ⟨D, hD, hDs, hDt⟩, hql⟩ := HB.out
            have et : s.data.toList.take s.size = s.data.toList := List.take_of_length_le (by simp)
            rw [et] at hDt hql
            have hqe : q = s.size + m := by have := hM.out; omega
            have hcv : (convert 90 9 (.slice (some ⟨w.heap.size, 0, none⟩) (s.size + m) (s.size + m))).run Tryz.prog wr = .ok (.string ⟨(esc s.data.toList).toArray⟩) wr := by
              have hl : (esc s.data.toList).length = s.size + m := by rw [esc_len, ← hM.out]; rfl
              rw [← hl]
              refine run_convert_bytes_back (P := Tryz.prog) wr 90 9 5 ⟨w.heap.size, 0, none⟩ _ (esc s.data.toList) Tryz.underlying90 Tryz.underlying5 Tryz.underlying9 (fun j hj => ?_)
              rw [add_plain, cell_blk hD j]
              rw [List.take_of_length_le (by simp; omega)] at hDt
              rw [← Array.getElem?_toList, hDt, List.getElem?_map, List.getElem?_eq_getElem hj]
              rfl
            have hbel := Aside0.mk bel
            clear hD hDt hql bel HB hqe et
            go_wp2
            go_ret
            exact ⟨rfl, hbel.out⟩
      · obtain rfl : m = 0 := by omega
        have HE : Aside0 (esc s.data.toList = s.data.toList) := ⟨esc_none _ (by have h_ := HM.out; rw [List.take_of_length_le (by simp)] at h_; exact h_.symm)⟩
        go_wp2
        go_ret
        exact ⟨by rw [HE.out, Array.toArray_toList]; rfl, Below.refl _ _⟩

end Go.Proofs.YtfabnapjbgamaaaGreatDoor.Val
namespace Go.Proofs.YtfabnapjbgamaaaGreatDoor.Val
open Go.Proofs.YtfabnapjbgamaaaGreatDoorW.PrintLast Go.RowKit Go.Proofs.YtfabnapjbgamaaaGreatDoorW.PrintWords
set_option linter.unusedVariables false
set_option linter.unusedSimpArgs false
/-! ### Replacer: NewReplacer 41, buildOnce 48, Replace 42 -/
/-- The struct of a Replacer, not yet built: block g. -/
structure NR (w : World) (g : Nat) : Prop where
  ex : ∃ x r a c, w.heap[g]? = some (.cells #[.int .u32 0, .int .i32 0, x, r, .slice (some ⟨a, 0, none⟩) 4 c] 144 (0, 0)) ∧ 4 ≤ c ∧ a ≠ g ∧
    w.cell? ⟨a, 0, none⟩ = some (S1 92) ∧ w.cell? ⟨a, 1, none⟩ = some (S2 92 92) ∧ w.cell? ⟨a, 2, none⟩ = some (S1 34) ∧ w.cell? ⟨a, 3, none⟩ = some (S2 92 34)
theorem cell_set_far (w : World) (g j : Nat) (v : Value) (p : Addr) (h : p.block ≠ g) : (w.setCell ⟨g, j, none⟩ v).cell? p = w.cell? p := by
  unfold World.cell?
  rw [set_far _ _ _ _ _ h]
theorem BSR.other {w w1 : World} {gB g : Nat} (h : BSR w gB) (hn : gB ≠ g) (hg : ∀ v, w.cell? ⟨g, 0, none⟩ ≠ some (.int .u8 v)) (ho : ∀ k, k ≠ g → k < w.heap.size → w1.heap[k]? = w.heap[k]?) : BSR w1 gB := by
  have hc : ∀ (p : Addr) v, p.block ≠ g → w.cell? p = some v → w1.cell? p = some v := fun p v h1 h2 => by
    have : w1.cell? p = w.cell? p := World.cell?_of_block (ho _ h1 (lt_of_cell h2))
    rw [this]
    exact h2
  refine ⟨fun i h1 h2 h3 => hc _ _ hn (h.none_ i h1 h2 h3), ?_, ?_, ?_⟩
  · obtain ⟨b, c, h1, h2, h3⟩ := h.at34
    have hb : b ≠ g := fun e => hg _ (e ▸ h2)
    exact ⟨b, c, hc _ _ hn h1, hc _ _ hb h2, hc _ _ hb h3⟩
  · obtain ⟨b, c, h1, h2, h3⟩ := h.at92
    have hb : b ≠ g := fun e => hg _ (e ▸ h2)
    exact ⟨b, c, hc _ _ hn h1, hc _ _ hb h2, hc _ _ hb h3⟩
  · obtain ⟨A, c, h1⟩ := h.row
    exact ⟨A, c, hc _ _ hn h1⟩
/-- What buildOnce leaves. -/
structure BO (w : World) (g : Nat) (d s x : Value) (w' : World) : Prop where
  grown : w.grownBy w' (some g)
  ex : ∃ gB, BSR w' gB ∧ gB ≠ g ∧ w'.heap[g]? = some (.cells #[d, s, x, .iface 176 (.pointer (some ⟨gB, 0, none⟩)), .slice none 0 0] 144 (0, 0))
set_option maxRecDepth 1000000 in
set_option maxHeartbeats 1600000 in
theorem buildOnce_calls (g a c : Nat) (d s x r : Value) (w : World) (hg : w.heap[g]? = some (.cells #[d, s, x, r, .slice (some ⟨a, 0, none⟩) 4 c] 144 (0, 0))) (hd : ∀ v, d ≠ .int .u8 v) (hc : 4 ≤ c)
    (x0 : w.cell? ⟨a, 0, none⟩ = some (S1 92)) (x1 : w.cell? ⟨a, 1, none⟩ = some (S2 92 92)) (x2 : w.cell? ⟨a, 2, none⟩ = some (S1 34)) (x3 : w.cell? ⟨a, 3, none⟩ = some (S2 92 34)) :
    Calls Tryz.prog 70 #[.pointer (some ⟨g, 0, none⟩)] w fun e w' => e = .returned (.tuple #[]) ∧ BO w g d s x w' := by
  have hu144 := Tryz.underlying144
  have h4 : w.cell? ⟨g, 4, none⟩ = some (.slice (some ⟨a, 0, none⟩) 4 c) := cell_blk hg 4
  have hlt := lt_blk hg
  have HG := Aside0.mk hg
  go_enter Tryz.func70, Tryz.ntmps70
  go_wp2_with (go_at_call 79; (with_reducible refine (build_calls g a c w hc h4 x0 x1 x2 x3).mono ?_); rintro e w1 ⟨gB, rfl, hB, hgB, hbel⟩; have HB := Aside0.mk hB; have HBE := Aside0.mk hbel; have hg1 := (hbel.block g hlt).trans HG.out; have k3 : w1.cell? ⟨g, 3, none⟩ = some r := cell_blk hg1 3; have k4 : w1.cell? ⟨g, 4, none⟩ = some (.slice (some ⟨a, 0, none⟩) 4 c) := cell_blk hg1 4; have f3 := frozen_blk hg1 3; have f4 := frozen_blk hg1 4; clear hB hbel)
  go_end0
  have hn : gB ≠ g := by omega
  have hb1 := set_blk (set_blk hg1 3 (.iface 176 (.pointer (some ⟨gB, 0, none⟩)))) 4 (.slice none 0 0)
  refine ⟨rfl, ⟨⟨HBE.out.os, HBE.out.tape, HBE.out.output, ?_, fun k hk hne => ?_⟩, gB, ?_, hn, hb1⟩⟩
  · have := HBE.out.size
    unfold World.setCell
    simp
    exact this
  · have hne2 : k ≠ g := fun e => hne (by rw [e])
    rw [set_far _ _ _ _ _ hne2, set_far _ _ _ _ _ hne2]
    exact HBE.out.block k hk
  · refine HB.out.other hn (fun v h => hd v ?_) (fun k hk _ => ?_)
    · have h0 : w1.cell? ⟨g, 0, none⟩ = some d := cell_blk hg1 0
      rw [h0] at h
      exact Option.some.inj h
    · rw [set_far _ _ _ _ _ hk, set_far _ _ _ _ _ hk]
theorem method_replace (a : Addr) (w : World) : (method 351 176 (.pointer (some a)) "Replace").run Tryz.prog w = .ok (159, .pointer (some a)) w := by kernel_rfl
theorem after_do {w w2 : World} {g : Nat} {x : Value} (hlt : g < w.heap.size) (h : ∃ w1, BO (w.setCell ⟨g, 1, none⟩ (.int .i32 1)) g (.int .u32 0) (.int .i32 1) x w1 ∧ w2 = (w1.drew.setCell ⟨g, 0, none⟩ (.int .u32 1)).setCell ⟨g, 0 + 1, none⟩ (.int .i32 0)) :
    ∃ gB, BSR w2 gB ∧ w2.cell? ⟨g, 3, none⟩ = some (.iface 176 (.pointer (some ⟨gB, 0, none⟩))) ∧ w.grownBy w2 (some g) := by
  obtain ⟨w1, hbo, rfl⟩ := h
  obtain ⟨gB, h1, h2, h3⟩ := hbo.ex
  have hs : (w.setCell ⟨g, 1, none⟩ (.int .i32 1)).heap.size = w.heap.size := by unfold World.setCell; simp
  refine ⟨gB, h1.other h2 (fun v h => ?_) (fun k hk _ => ?_), ?_, hbo.grown.os, hbo.grown.tape, hbo.grown.output, ?_, fun k hk hne => ?_⟩
  · have h0 : w1.cell? ⟨g, 0, none⟩ = some (.int .u32 0) := cell_blk h3 0
    rw [h0] at h
    injection h with h
    injection h with h
    cases h
  · rw [set_far _ _ _ _ _ hk, set_far _ _ _ _ _ hk]
    rfl
  · have h5 : w1.drew.heap[g]? = some (.cells #[.int .u32 0, .int .i32 1, x, .iface 176 (.pointer (some ⟨gB, 0, none⟩)), .slice none 0 0] 144 (0, 0)) := h3
    exact cell_blk (set_blk (set_blk h5 0 (.int .u32 1)) (0 + 1) (.int .i32 0)) 3
  · have := hbo.grown.size
    rw [hs] at this
    unfold World.setCell
    simp
    exact this
  · have hne2 : k ≠ g := fun e => hne (by rw [e])
    rw [set_far _ _ _ _ _ hne2, set_far _ _ _ _ _ hne2]
    have := hbo.grown.block k (by rw [hs]; exact hk) hne
    rw [set_far _ _ _ _ _ hne2] at this
    exact this
set_option maxRecDepth 1000000 in
set_option maxHeartbeats 1600000 in
theorem Replace_calls (g : Nat) (s : ByteArray) (w : World) (hs : s.size ≤ 15) (H : NR w g) :
    Calls Tryz.prog 62 #[.pointer (some ⟨g, 0, none⟩), .string s] w fun e w' => e = .returned (.string ⟨(esc s.data.toList).toArray⟩) ∧ w.grownBy w' (some g) := by
  have hu144 := Tryz.underlying144
  have hu140 := Tryz.underlying140
  obtain ⟨x, r, a, c, hg, hc, hag, x0, x1, x2, x3⟩ := H.ex
  have hlt := lt_blk hg
  have hg1 := set_blk hg 1 (.int .i32 1)
  have hcf : ∀ (p : Addr), p.block ≠ g → (w.setCell ⟨g, 1, none⟩ (.int .i32 1)).cell? p = w.cell? p := fun p h => cell_set_far w g 1 _ p h
  have hbo := buildOnce_calls g a c (.int .u32 0) (.int .i32 1) x r (w.setCell ⟨g, 1, none⟩ (.int .i32 1)) hg1 (fun v h => by injection h with h; cases h) hc ((hcf _ hag).trans x0) ((hcf _ hag).trans x1) ((hcf _ hag).trans x2) ((hcf _ hag).trans x3)
  have hdo := do_first g 0 (.pointer (some ⟨g, 0, none⟩)) (BO (w.setCell ⟨g, 1, none⟩ (.int .i32 1)) g (.int .u32 0) (.int .i32 1) x) w (cell_blk hg 0) (cell_blk hg 1) (frozen_blk hg 0) (frozen_blk hg 1) hbo (fun w' hw' => by
    obtain ⟨gB, _, _, h3⟩ := hw'.ex
    exact ⟨cell_blk h3 0, cell_blk h3 1, frozen_blk h3 0, frozen_blk h3 1⟩)
  have HDO := Aside0.mk hdo
  clear hdo hbo hcf x0 x1 x2 x3
  have hmet := method_replace
  have hmf : ∀ (fn : Fn) (first cap : Array Value) (w : World), (Instr.makeFunc fn first cap).run Tryz.prog w = .ok (.func fn first cap) w := fun _ _ _ _ => rfl
  go_enter Tryz.func62, Tryz.ntmps62
  go_wp2_with (first | (go_at_call 159; (with_reducible refine (replace_calls _ s _ hs ?hb).mono ?_); (case hb => exact HB2.out); rintro e w3 ⟨rfl, hb3⟩) | (go_at_call 69; refine HDO.out.mono ?_; rintro e w2 ⟨rfl, hw2⟩; obtain ⟨gB, hB2, hc3, hgr2⟩ := after_do hlt hw2; have HB2 := Aside0.mk hB2; have HGR2 := Aside0.mk hgr2; clear hw2 hB2 hgr2))
  go_ret
  refine ⟨rfl, hb3.os.trans HGR2.out.os, hb3.tape.trans HGR2.out.tape, hb3.output.trans HGR2.out.output, Nat.le_trans HGR2.out.size hb3.size, fun k hk hne => (hb3.block k (Nat.lt_of_lt_of_le hk HGR2.out.size)).trans (HGR2.out.block k hk hne)⟩
abbrev four : List Value := [S1 92, S2 92 92, S1 34, S2 92 34]
theorem run_app4 (w : World) (N : Nat) (hN : w.heap[N]? = some (.cells four.toArray 9 (0, 0))) :
    ∃ a c w1, (Builtin.append_ #[56, 56] 56 #[.slice none 0 0, .slice (some ⟨N, 0, none⟩) 4 4]).run Tryz.prog w = .ok (.slice (some ⟨a, 0, none⟩) 4 c) w1 ∧ 4 ≤ c ∧ Below w.heap.size w w1 ∧ w.heap.size ≤ a ∧ ∀ j (hj : j < 4), w1.cell? ⟨a, j, none⟩ = some (four[j]'hj) := by
  obtain ⟨i0, hi, hzz⟩ := Option.map_eq_some_iff.1 info9
  simp only [Prod.mk.injEq] at hzz
  obtain ⟨hz0, hz1, hz2⟩ := hzz
  obtain ⟨v1, w1, h1, h2, h3, _, h4⟩ := run_append_own_at (P := Tryz.prog) (w := w) w.heap.size 56 56 9 i0 _ 1 16 Tryz.underlying56 hi hz0 hz1 hz2 rfl (by omega) (.slice none 0 0) 0 [] (own_nil _ _ _ _) ⟨N, 0, none⟩ 4 4 four rfl (fun j u hu => by
    rw [add_plain, cell_blk hN j]
    simpa using hu) (by intro v hv; simp at hv; rcases hv with rfl | rfl | rfl | rfl <;> rfl) (by simp [maxLen]) (by omega) (Nat.le_refl _)
  rcases h2.2 with ⟨rfl, h0⟩ | ⟨g, cap, cur, rfl, hb, hh, hn, _, _, ht⟩
  · omega
  · refine ⟨g, cap, w1, h1, by omega, (Below.refl _ _).grown h3 (Nat.le_refl _) (fun k hk => by simp [Value.ownBlock] at hk), hb, fun j hj => ?_⟩
    rw [cell_blk hh j]
    have e : cur.toList[j]? = some (four[j]'hj) := by
      have : (cur.toList.take (4 * 1))[j]? = four[j]? := by
        have h5 : cur.toList.take ((0 + 4) * 1) = [] ++ four := by simpa using ht
        simpa using congrArg (fun l => l[j]?) h5
      rw [List.getElem?_take_of_lt (by omega)] at this
      rw [this, List.getElem?_eq_getElem hj]
    rw [← Array.getElem?_toList]
    exact e
set_option maxRecDepth 1000000 in
set_option maxHeartbeats 1600000 in
theorem New_calls (N : Nat) (w : World) (hN : w.heap[N]? = some (.cells four.toArray 9 (0, 0))) :
    Calls Tryz.prog 61 #[.slice (some ⟨N, 0, none⟩) 4 4] w fun e w' => ∃ g, e = .returned (.pointer (some ⟨g, 0, none⟩)) ∧ NR w' g ∧ w.heap.size ≤ g ∧ Below w.heap.size w w' := by
  obtain ⟨a, c, w1, hrun, hc, hbel, ha, hcells⟩ := run_app4 w N hN
  have HRUN := Aside0.mk hrun
  have HBE := Aside0.mk hbel
  have HC := Aside0.mk hcells
  clear hrun hbel hcells
  go_enter Tryz.func61, Tryz.ntmps61
  go_wp2_with (at_builtin; refine wpList_apprun rfl (.const (.slice none 0 0)) (.tmp 8) rfl rfl (by rfl) (by rfl) HRUN.out ?_)
  go_ret
  have hlt : ∀ j (hj : j < 4), a < w1.heap.size := fun j hj => lt_of_cell (HC.out j hj)
  have hal := hlt 0 (by omega)
  have ho : ∀ j (hj : j < 4), (w1.alloc (.cells #[.int .u32 0, .int .i32 0, .int .u32 0, .nilIface, .slice (some ⟨a, 0, none⟩) 4 c] 144)).cell? ⟨a, j, none⟩ = some (four[j]'hj) := fun j hj => (World.cell?_alloc_past _ _ _ hal).trans (HC.out j hj)
  refine ⟨_, rfl, ⟨_, _, a, c, heap_alloc_last w1 _, hc, by omega, ho 0 (by omega), ho 1 (by omega), ho 2 (by omega), ho 3 (by omega)⟩, HBE.out.size, HBE.out.alloc HBE.out.size _⟩
end Go.Proofs.YtfabnapjbgamaaaGreatDoor.Val
namespace Go.Proofs.YtfabnapjbgamaaaGreatDoor.Val
open Go.Proofs.YtfabnapjbgamaaaGreatDoorW.PrintLast Go.RowKit Go.Proofs.YtfabnapjbgamaaaGreatDoorW.PrintWords
set_option linter.unusedVariables false
set_option linter.unusedSimpArgs false
abbrev Tab (w : World) : Prop := Go.Lib.TabIs Tryz.prog w "internal/strconv.uint64pow10" .u64 Go.Lib.pow10Tab
theorem gtab : Tryz.prog.globalNamed "internal/strconv.uint64pow10" = some 2 := by kernel_rfl
theorem Tab.below {w w1 : World} (h : Tab w) (hb : Below w.heap.size w w1) : Tab w1 := Go.Joins.tab_stays gtab h hb (Nat.le_refl _)
def quote (s : ByteArray) : ByteArray := (⟨#[34]⟩ : ByteArray) ++ (⟨(esc s.data.toList).toArray⟩ : ByteArray) ++ (⟨#[34]⟩ : ByteArray)
def itoa (n : Int) : ByteArray := ⟨(Go.Lib.itoa n).toArray⟩
set_option maxRecDepth 1000000 in
set_option maxHeartbeats 1600000 in
theorem Say_int (n : Int) (s : ByteArray) (h0 : -9223372036854775808 ≤ n) (h1 : n ≤ 9223372036854775807) (w : World) (ht : Tab w) :
    Calls Tryz.prog 49 #[.agg #[.bool false, .int .i64 n, .string s]] w fun e w' => e = .returned (.string (itoa n)) ∧ Below w.heap.size w w' := by
  have hu39 := Tryz.underlying39
  have HT := Aside0.mk ht
  have H0 := Aside0.mk h0
  have H1 := Aside0.mk h1
  clear ht h0 h1
  go_enter Tryz.func49, Tryz.ntmps49
  go_wp2_with (go_at_call 48; (with_reducible refine (Tryz.strconv_Itoa n H0.out H1.out _ ?ht).mono ?_); (case ht => exact HT.out.below ((Below.refl _ _).alloc (Nat.le_refl _) _)); rintro e w1 ⟨rfl, hw1⟩)
  go_ret
  obtain ⟨k, os, rfl⟩ := hw1
  exact ⟨rfl, ((Below.refl _ _).alloc (Nat.le_refl _) _).trans (Go.Lib.below_grow _ _ (by simp) k os)⟩
/-- The table stands on. -/
theorem tb {w W : World} (h : Aside0 (Tab w)) (hb : Below w.heap.size w W) : Aside0 (Tab W) := ⟨h.out.below hb⟩
set_option maxRecDepth 1000000 in
set_option maxHeartbeats 1600000 in
theorem Say_text (n : Int) (s : ByteArray) (hs : s.size ≤ 15) (w : World) :
    Calls Tryz.prog 49 #[.agg #[.bool true, .int .i64 n, .string s]] w fun e w' => e = .returned (.string (quote s)) ∧ Below w.heap.size w w' := by
  have hu39 := Tryz.underlying39
  have hel : (esc s.data.toList).length ≤ 30 := by rw [esc_len]; have h1 := cnt_le s.data.toList; have h2 : s.data.toList.length = s.size := rfl; omega
  have hel1 : ¬ (9223372036854775807 < 1 + (esc s.data.toList).length) := by omega
  have hel2 : ¬ (9223372036854775807 < 1 + (esc s.data.toList).length + 1) := by omega
  go_enter Tryz.func49, Tryz.ntmps49
  go_upto_region 3 with (fail)
  obtain ⟨W, hW⟩ : ∃ W, W = w.alloc (.cells #[.bool true, .int .i64 n, .string s] 39) := ⟨_, rfl⟩
  rw [← hW]
  have hb0 : Below w.heap.size w W := by rw [hW]; exact (Below.refl _ _).alloc (Nat.le_refl _) _
  have hnew : W.heap[w.heap.size]? = some (.cells #[.bool true, .int .i64 n, .string s] 39 (0, 0)) := by rw [hW]; exact heap_alloc_last w _
  clear hW
  have hS : ∀ w', Below W.heap.size W w' → w'.cell? ⟨w.heap.size, 2, none⟩ = some (.string s) ∧ True := fun w' hw => ⟨(cell_blk ((hw.block _ (lt_blk hnew)).trans hnew) 2).trans rfl, trivial⟩
  refine start_ (n := 8) (S := fun w' => w'.cell? ⟨w.heap.size, 2, none⟩ = some (.string s) ∧ True) (ds := [4]) #[false, false, false, false, false, false, false, false] (by kernel_rfl) rfl rfl (hS _ (Below.refl _ _).drew) (fun hHeld => ?_)
  have hW0 : Below W.heap.size W W.drew := (Below.refl _ _).drew
  generalize W.drew = W0 at hW0 hHeld ⊢
  refine pure_ (i := 2) (N := (some 11)) (v := ?_) (a' := ?_) #[false, false, true, false, false, false, false, false] rfl rfl (by kernel_rfl) (fun _ _ _ h => h) (Or.inl ⟨by rfl, ?_⟩) ?_ ?_
  rotate_left
  · intro w'
    go_simp
    with_reducible rfl
  rotate_left
  · simp only [Act.put, List.setIfInBounds_toArray, List.set_cons_zero, List.set_cons_succ, i64_w, i32_w]
    rfl
  refine take_ (i := 3) (N := (some 12)) (v := ?_) (a' := ?_) #[false, false, true, true, false, false, false, false] rfl rfl (by kernel_rfl) (fun _ _ _ h => h) (Or.inl ⟨by rfl, ?_⟩) hHeld ?_ ?_
  rotate_left
  · rintro w' ⟨s0, s1⟩
    go_simp
    with_reducible rfl
  rotate_left
  · simp only [Act.put, List.setIfInBounds_toArray, List.set_cons_zero, List.set_cons_succ, i64_w, i32_w]
    rfl
  refine one_ (i := 0) (N := (some 9)) #[true, false, true, true, false, false, false, false] rfl rfl (by kernel_rfl) (by decide) (fun K hK => ?_)
  refine value_ (w1 := W0.alloc (.cells four.toArray 9)) (v := .slice (some ⟨W0.heap.size, 0, none⟩) 4 4) (by rfl) rfl (by go_simp) ?_
  have hW1 : Below W.heap.size W (W0.alloc (.cells four.toArray 9)) := hW0.alloc hW0.size _
  refine hK.out _ _ (hS _ hW1) (fun hHeld => ?_)
  clear hK K
  refine norm_ (a' := ?_) ?_ ?_
  rotate_left
  · show Act.put _ (some 9) _ = _
    simp only [Act.put, List.setIfInBounds_toArray, List.set_cons_zero, List.set_cons_succ, i64_w, i32_w]
    rfl
  refine one_ (i := 1) (N := (some 10)) #[true, true, true, true, false, false, false, false] rfl rfl (by kernel_rfl) (by decide) (fun K hK => ?_)
  refine goes_ Tryz.func61 (by kernel_rfl) rfl #[.slice (some ⟨W0.heap.size, 0, none⟩) 4 4] (by rfl) rfl rfl (by (try simp only [List.map_toArray, List.map_cons, List.map_nil]); first | done | rfl) ?_
  refine (New_calls W0.heap.size _ (heap_alloc_last W0 _)).mono ?_
  rintro e W2 ⟨g, rfl, hNR, hg, hbc⟩
  refine ⟨_, rfl, ?_⟩
  have hW2 : Below W.heap.size W W2 := hW1.trans (hbc.mono hW1.size)
  refine hK.out _ _ (hS _ hW2) (fun hHeld => ?_)
  clear hK K
  refine norm_ (a' := ?_) ?_ ?_
  rotate_left
  · show Act.put _ (some 10) _ = _
    simp only [Act.put, List.setIfInBounds_toArray, List.set_cons_zero, List.set_cons_succ, i64_w, i32_w]
    rfl
  refine last_ (i := 4) (N := (some 13)) #[true, true, true, true, true, false, false, false] rfl rfl (by kernel_rfl) (by decide) (fun K hK => ?_)
  refine goes_ Tryz.func62 (by kernel_rfl) rfl #[.pointer (some ⟨g, 0, none⟩), .string s] (by rfl) rfl rfl (by (try simp only [List.map_toArray, List.map_cons, List.map_nil]); first | done | rfl) ?_
  refine (Replace_calls g s W2 hs hNR).mono ?_
  rintro e W3 ⟨rfl, hgr⟩
  refine ⟨_, rfl, ?_⟩
  refine hK.out _ _ ?_
  clear hK K
  refine norm_ (a' := ?_) ?_ ?_
  rotate_left
  · show Act.put _ (some 13) _ = _
    simp only [Act.put, List.setIfInBounds_toArray, List.set_cons_zero, List.set_cons_succ, i64_w, i32_w]
    rfl
  refine pure_ (i := 5) (N := (some 14)) (v := ?_) (a' := ?_) #[true, true, true, true, true, true, false, false] rfl rfl (by kernel_rfl) (fun _ _ _ h => h) (Or.inl ⟨by rfl, ?_⟩) ?_ ?_
  rotate_left
  · intro w'
    go_simp
    with_reducible rfl
  rotate_left
  · simp only [Act.put, List.setIfInBounds_toArray, List.set_cons_zero, List.set_cons_succ, i64_w, i32_w]
    rfl
  refine pure_ (i := 6) (N := (some 15)) (v := ?_) (a' := ?_) #[true, true, true, true, true, true, true, false] rfl rfl (by kernel_rfl) (fun _ _ _ h => h) (Or.inl ⟨by rfl, ?_⟩) ?_ ?_
  rotate_left
  · intro w'
    go_simp
    with_reducible rfl
  rotate_left
  · simp only [Act.put, List.setIfInBounds_toArray, List.set_cons_zero, List.set_cons_succ, i64_w, i32_w]
    rfl
  refine pure_ (i := 7) (N := (some 2)) (v := ?_) (a' := ?_) #[true, true, true, true, true, true, true, true] rfl rfl (by kernel_rfl) (fun _ _ _ h => h) (Or.inl ⟨by rfl, ?_⟩) ?_ ?_
  rotate_left
  · intro w'
    go_simp
    with_reducible rfl
  rotate_left
  · simp only [Act.put, List.setIfInBounds_toArray, List.set_cons_zero, List.set_cons_succ, i64_w, i32_w]
    rfl
  refine done_ (by kernel_rfl) ?_
  have hW3 : Below W.heap.size W W3 := hW2.grown hgr hW2.size (fun k hk => by injection hk with hk; have := hW1.size; omega)
  go_wp2
  go_ret
  exact ⟨rfl, hb0.trans (hW3.mono hb0.size)⟩
end Go.Proofs.YtfabnapjbgamaaaGreatDoor.Val
