import Derived.Test.YtfkkefhijhjaaaaDoorGrR
namespace Go.Proofs.YtfkkefhijhjaaaaDoor
open Go.RowKit Go.Proofs.YtfkkefhijhjaaaaDoorW.PrintLast Go.Proofs.YtfkkefhijhjaaaaDoorW.PrintWords Go.Proofs.YtfkkefhijhjaaaaDoorW.PrintMore
set_option linter.unusedVariables false
set_option linter.unusedSimpArgs false
namespace Rg
section
variable {P : Program} {ops : Array Oper} {Q : Exit → Act → World → Prop} {md : Region.Mode} {S : World → Prop} {n N : Nat} {D : Kp} {L : List (Nat × Value)} {w : World} {a : Act} {tb : List Ent}
theorem callK {K : Act → World → Prop} {f : FuncId} {fn : Func} {o : Oper} {x : Operand} {os : Array Operand} {ts : Array TypeId} (cb args : Array Value) (hwt : Region.wanted o (yielded ops a.tmps) = true)
    (ho : o.op = .call { callee := .value x, args := os, argTypes := ts }) (hf : P.funcs[f]? = some fn) (hname : (fn.name == "runtime.NumGoroutine") = false) (hb : fn.body.isSome = true)
    (e1 : a.eval x = .func (.func f) #[] cb) (e2 : os.map a.eval = args)
    (h : Calls P f (args ++ cb) w fun e w' => ∃ v, e = .returned v ∧ K (a.put o.dst v) w') :
    if Region.wanted o (yielded ops a.tmps) = true then Oper.wp P o a w K Q else K (a.put o.dst undef) w := by
  refine call_ f (args ++ cb) hwt rfl ?_ h
  have he := enters_ hf hname hb (args ++ cb) w
  unfold execOp
  simp [ho, resolve, Deferred.ofValue, invoke, e1, e2, he]
def chkSt (wm : Nat) (tb : List Ent) (n N : Nat) (L : List (Nat × Value)) (m i m' : Nat) : Bool := oneM tb N m m' i && (match tb[i]? with
  | some e => (match e.dst with | none => true | some _ => false) && (match wa n L e.grd with | some b => b | none => false)
  | none => false)
/-- A store in the middle. -/
theorem store {m k : Nat} (C : Ctx P md ops Q n N tb) (i m' : Nat) (op : Op) (hi : opAt tb i = some op) (hc : chkSt D.wm tb n N L m i m' = true)
    (h : ∀ a, Fr n D L a → ∀ o : Oper, o.op = op → o.dst = none → ∀ K : Act → World → Prop, (∀ w', S w' → At P md ops Q S n N D m' k L w' → K a w') → Oper.wp P o a w K Q) (hnd : nin D.ds i = true := by kernel_rfl) : At P md ops Q S n N D m (k + 1) L w := by
  intro a hF
  simp only [chkSt, Bool.and_eq_true] at hc
  obtain ⟨h1, h3⟩ := hc
  unfold opAt at hi
  cases he : tb[i]? with
  | none => rw [he] at hi; cases hi
  | some e =>
    rw [he] at hi h3
    obtain ⟨o, ho, e0⟩ := C.tabd.ent he
    subst e0
    have hop : o.op = op := Option.some.inj hi
    simp only at h3
    rw [Bool.and_eq_true] at h3
    have hd : o.dst = none := by
      cases hd : o.dst with
      | none => rfl
      | some s => rw [hd] at h3; cases h3.1
    have hw : Region.wanted o (yielded ops a.tmps) = true := by
      cases hw : wa n L (gOf ops o) with
      | none => rw [hw] at h3; cases h3.2
      | some b => rw [hw] at h3; rw [hF.wanted C.small hw]; exact h3.2
    refine one_ (i := i) (N := none) (bl N m') ho hd (oneM_of C.tabd h1) (nin_of hnd) (fun K hK => ?_)
    rw [if_pos hw]
    exact h a hF o hop hd K (fun w' hS' hA => hK.out _ _ hS' (fun _ => hA _ hF))
theorem wp_store {K : Act → World → Prop} {o : Oper} {w1 : World} (hd : o.dst = none) (hrun : (execOp a.eval o).run P w = .ok .skip w1) (h : K a w1) : Oper.wp P o a w K Q := by
  unfold Oper.wp
  rw [hrun]
  unfold Oper.upon
  rw [hd]
  exact h
end
end Rg
namespace Gr
open Go.Proofs.YtfkkefhijhjaaaaDoor.Er (Err)
theorem trace_e (g : Nat) (i : Int) (w : World) (ht : Er.Typ w) (h : errOk w g (some i)) : Calls Tryd.prog 35 #[.iface 86 (.pointer (some ⟨g, 0, none⟩))] w fun ev w' => ∃ (ad : Addr) (c : Nat), ev = .returned (.slice (some ad) 1 c) ∧ w'.cell? ad = some (.string opG) ∧ Below w.heap.size w w' := by
  refine (Er.trace_any _ w ht h (by simp [Err.size])).mono ?_
  rintro ev w' ⟨v, rfl, ho, hb⟩
  rcases ho with ⟨h0, ⟨h1, h2⟩ | ⟨b, cap, cur, rfl, h1, h2, h3, h4, h5, h6⟩⟩
  · exact absurd (show (1 : Nat) = 0 from h2) (by decide)
  · refine ⟨⟨b, 0, none⟩, cap, rfl, ?_, hb⟩
    rw [blk_cell h2 0]
    have e : cur.toList.take 1 = [.string opG] := h6
    have e0 := congrArg (·[0]?) e
    rw [List.getElem?_take_of_lt (by decide)] at e0
    simpa using e0
set_option maxHeartbeats 8000000 in
set_option maxRecDepth 100000 in
theorem same_graph (A0 A1 : Addr) (c0 c1 : Nat) (w : World) (h0 : w.cell? A0 = some (.string opG)) (h1 : w.cell? A1 = some (.string opG)) :
    Calls Tryd.prog 34 #[.slice (some A0) 1 c0, .slice (some A1) 1 c1] w fun e w' => e = .returned (.bool true) ∧ Below w.heap.size w w' := by
  have H0 := Aside0.mk h0
  have H1 := Aside0.mk h1
  clear h0 h1
  go_enter Tryd.func34, Tryd.ntmps34
  go_wp2_with fail
  go_loopg [5] 1 (fun q s5 wr => ∃ i : Nat, s5 = .int .i64 (i : Int) ∧ Aside0 (q + i = 1) ∧ Aside0 (Below w.heap.size w wr))
  case atStart => exact ⟨0, rfl, ⟨by omega⟩, ⟨Below.refl _ _⟩⟩
  case round =>
    obtain ⟨i, rfl, HQ, HB⟩ := hrel
    by_cases hi : i < 1
    · have hc0 : wr.cell? (A0.add i) = some (.string opG) := by
        obtain rfl : i = 0 := by omega
        exact pw_cell_below HB.out H0.out
      have hc1 : wr.cell? (A1.add i) = some (.string opG) := by
        obtain rfl : i = 0 := by omega
        exact pw_cell_below HB.out H1.out
      have hi1 : (i : Int) < 1 := by omega
      have d0 : decide ((i : Int) < 1) = true := decide_eq_true hi1
      have hi6 : (i : Int) + 1 ≤ 1000000 := by omega
      go_wp2_with fail
      go_quiet (fail)
      go_wp2_with fail
      go_roundg (gk - 1)
      case measure => have := HQ.out; omega
      case rel => exact ⟨i + 1, by go_num, ⟨by have := HQ.out; omega⟩, ⟨by repeat (first | exact HB.out | apply pw_below_drewN | apply below_drew)⟩⟩
    · obtain rfl : i = 1 := by have := HQ.out; omega
      go_wp2_with fail
      go_ret
      exact ⟨rfl, by repeat (first | exact HB.out | apply pw_below_drewN | apply below_drew)⟩
end Gr
end Go.Proofs.YtfkkefhijhjaaaaDoor
