import Derived.Test.YtfabnapjbgamaaaGreatDoorMx0
import Derived.Lib.Overlaps
import Derived.Lib.SliceRun
import Derived.Lib.AppendZerosOnto
import Derived.Laws.CopyRow
import Derived.Laws.CopyOwn
import Derived.Laws.Externs
import Derived.Deep.RegionLaw
import Derived.WalkSpells
import Derived.Deep.LoopGhost
import Derived.Shelf.Abstract
import Derived.Lib.Bytealg
namespace Go.Proofs.YtfabnapjbgamaaaGreatDoor.MPred
open Go.RowKit Go.Lib Go.Proofs.YtfabnapjbgamaaaGreatDoorW.PrintWords Go.Proofs.YtfabnapjbgamaaaGreatDoorW.PrintLast Go.Proofs.YtfabnapjbgamaaaGreatDoorW.PrintMore
set_option linter.unusedVariables false
set_option linter.unusedSimpArgs false
theorem ins_list {α : Type} (L ys : List α) (a k m : Nat) (ha : a ≤ m) (hm : m + k ≤ L.length) (hk : ys.length = k) (cs L1 : List α) (hcs : L.take m = cs)
    (hL1 : L1 = L.take (a + k) ++ cs.drop a ++ L.drop (a + k + (cs.drop a).length)) :
    (L1.take a ++ ys ++ L1.drop (a + ys.length)).take (m + k) = cs.take a ++ ys ++ cs.drop a := by
  have hcl : cs.length = m := by rw [← hcs, List.length_take]; omega
  have hta : (L.take (a + k)).length = a + k := by rw [List.length_take]; omega
  have e1 : L1.take a = cs.take a := by
    rw [hL1, List.append_assoc, List.take_append_of_le_length (by omega), List.take_take, ← hcs, List.take_take]
    congr 1
    omega
  have e2 : L1.drop (a + ys.length) = cs.drop a ++ L.drop (a + k + (cs.drop a).length) := by
    rw [hL1, List.append_assoc, List.drop_append_of_le_length (by omega), List.drop_of_length_le (by omega), List.nil_append]
  rw [e1, e2, ← List.append_assoc]
  have hl : (cs.take a ++ ys ++ cs.drop a).length = m + k := by simp; omega
  rw [← hl, List.take_left']
  rfl
theorem add_plain' (b o j : Nat) : (⟨b, o, none⟩ : Addr).add j = ⟨b, o + j, none⟩ := by unfold Addr.add; split <;> simp_all
theorem run_copy_rowK {P : Program} (w : World) (dT sT ty elem : TypeId) (K g o dLen dCap : Nat) (a : Addr) (sLen sCap : Nat) (cur : Array Value) (t : TypeId) (cs : List Value)
    (hu : P.underlying dT = some (.slice elem)) (hs : (P.info? elem).map (·.size) = some K)
    (hg : w.heap[g]? = some (.cells cur t (0, 0))) (hn : cs.length = Nat.min sLen dLen * K)
    (hsrc : ∀ j v, cs[j]? = some v → w.cell? (a.add j) = some v) (hfit : o + cs.length ≤ cur.size) (h1 : ∀ v ∈ cs, v.oneCell' = true) :
    (Builtin.copy_ #[dT, sT] ty #[.slice (some ⟨g, o, none⟩) dLen dCap, .slice (some a) sLen sCap]).run P w =
      .ok (goInt (Nat.min sLen dLen)) (w.setRow g (cur.toList.take o ++ cs ++ cur.toList.drop (o + cs.length)).toArray) := by
  have hl := run_loadCells_list (P := P) w a cs hsrc
  have hst := run_storeCells_at P g o t cs 0 cur w hg (by simpa using hfit) h1
  cases hq : P.info? elem with
  | none => simp [hq] at hs
  | some i =>
    have hi : i.size = K := by simpa [hq] using hs
    simp [Builtin.copy_, run_underlying hu, Builtin.lenOf, Builtin.firstCells, sizeOf, typeInfo, hq, hi, ← hn, hl, hst]
theorem wpList_copy_run {P : Program} (w : World) {ops : Array Oper} {rest : List Oper} {o : Oper} {a : Act} {Q : Exit → Act → World → Prop} (hgd : o.guard = none) (d s : Operand) (t t' : TypeId)
    (ho : o.op = .call { callee := .builtin .copy, args := #[d, s], argTypes := #[t, t'] }) (v u : Value) (hd : a.eval d = v) (hs : a.eval s = u) {v' : Value} {w' : World}
    (hr : (Builtin.copy_ #[t, t'] o.type #[v, u]).run P w = .ok v' w') (h : wpList P ops Q rest (a.put o.dst v') w') : wpList P ops Q (o :: rest) a w :=
  wpList_plain hgd fun K hK => by
    unfold Oper.wp execOp
    simp only [ho, resolve, invoke, builtin, Sem.run_bind, Sem.run_pure, Result.andThen_ok, List.map_toArray, List.map_cons, List.map_nil, hd, hs, hr]
    exact hK _ _ h
theorem step_copy_run {P : Program} {ops : Array Oper} {o : Oper} {a : Act} {w : World} {K : Act → World → Prop} {Q : Exit → Act → World → Prop} {E : Prop}
    (hg : o.guard = none) (d x : Operand) (dT sT : TypeId) (hop : o.op = Op.call { callee := Callee.builtin Builtin.copy, args := #[d, x], argTypes := #[dT, sT] })
    (v u : Value) (hd : a.eval d = v) (hx : a.eval x = u) {v' : Value} {w' : World} (hr : (Builtin.copy_ #[dT, sT] o.type #[v, u]).run P w = .ok v' w') (hK : K (a.put o.dst v') w') :
    if Region.wanted o (yielded ops a.tmps) = true then Oper.wp P o a w K Q else E := by
  have hw : Region.wanted o (yielded ops a.tmps) = true := by simp [Region.wanted, hg]
  rw [if_pos hw]
  unfold Oper.wp
  simp [execOp, hop, resolve, invoke, builtin, hd, hx, hr, Result.andThen]
  exact hK
theorem ins_grow {α : Type} (cs ys R : List α) (a k : Nat) (ha : a ≤ cs.length) (hk : ys.length = k) (hR : R.take a = cs.take a) (hl : cs.length + k ≤ R.length) (R1 : List α) (hR1 : R1 = R.take a ++ ys ++ R.drop (a + ys.length)) :
    (R1.take (a + k) ++ cs.drop a ++ R1.drop (a + k + (cs.drop a).length)).take (cs.length + k) = cs.take a ++ ys ++ cs.drop a := by
  have e1 : R1.take (a + k) = cs.take a ++ ys := by
    have hl1 : (R.take a ++ ys).length = a + k := by simp [hk]; omega
    rw [hR1, ← hl1, List.take_left', hR]
    rfl
  rw [e1]
  have hl2 : (cs.take a ++ ys ++ cs.drop a).length = cs.length + k := by simp; omega
  rw [← hl2, List.take_left']
  rfl
theorem info23' : (Tryz.prog.info? 23).map (fun i => (i.zero, i.size, i.bytes)) = some (some (.agg #[(.string ⟨#[]⟩), (.int .i64 0), (.int .i64 0), (.int .i64 0), (.string ⟨#[]⟩)]), 5, 56) := by kernel_rfl
def ins23.Post (base : Nat) (v : Value) (n : Nat) (xs' : List Value) (w : World) (e : Ending) (w' : World) : Prop :=
  ∃ v', e = .returned v' ∧ w'.ownsRow base 23 5 v' (n + 1) xs' ∧ w.grownBy w' v.ownBlock ∧ (v'.ownBlock = v.ownBlock ∨ v'.ownBlock = some w.heap.size)
set_option maxHeartbeats 4000000 in
set_option maxRecDepth 100000 in
theorem ins23.shift (b n c i vb vc : Nat) (cs ys : List Value) (cur : Array Value) (w : World) (hi : i < n) (hroom : n + 1 ≤ c) (hc63 : c ≤ 9223372036854775807) (hvb : vb ≠ b)
    (hcl : cs.length = n * 5) (hyl : ys.length = 5) (hb : w.heap[b]? = some (.cells cur 23 (0, 0))) (hcur : cur.size = c * 5) (htake : cur.toList.take (n * 5) = cs)
    (hv : w.heap[vb]? = some (.cells ys.toArray 23 (0, 0))) (h1c : ∀ v ∈ cs, v.oneCell' = true) (h1v : ∀ v ∈ ys, v.oneCell' = true) :
    Calls Tryz.prog 32 #[.slice (some ⟨b, 0, none⟩) n c, .int .i64 i, .slice (some ⟨vb, 0, none⟩) 1 vc] w fun e w' =>
      e = .returned (.slice (some ⟨b, 0, none⟩) (n + 1) c) ∧ ∃ cur', cur'.size = c * 5 ∧ cur'.toList.take ((n + 1) * 5) = cs.take (i * 5) ++ ys ++ cs.drop (i * 5) ∧ w' = (w.drew.setRow b (cur.toList.take ((i + 1) * 5) ++ cs.drop (i * 5) ++ cur.toList.drop ((i + 1) * 5 + (cs.drop (i * 5)).length)).toArray).setRow b cur' := by
  have u25 := run_underlying (P := Tryz.prog) Tryz.underlying25
  have hz1 : ¬ ((1 : Int) = 0) := by omega
  have hz2 : ¬ ((i : Int) = (n : Int)) := by omega
  have hz3 : ((i : Int) == (n : Int)) = false := by simpa using hz2
  have hroom' : decide ((c : Int) < (n : Int) + 1) = false := by simp; omega
  have hw1 : IntKind.i64.wrap ((i : Int) + 1) = (i : Int) + 1 := by rw [IntKind.wrap_i64]; omega
  have hw2 : IntKind.i64.wrap ((n : Int) + 1) = (n : Int) + 1 := by rw [IntKind.wrap_i64]; omega
  have hb1 : (0 : Int) ≤ (i : Int) + 1 := by omega
  have hin : i ≤ n := by omega
  have hin' : i + 1 ≤ n + 1 := by omega
  have htn : ((i : Int) + 1).toNat = i + 1 := by omega
  have htn2 : ((n : Int) + 1).toNat = n + 1 := by omega
  have hb2 : ¬ (c = i + 1) := by omega
  have hb4 : ¬ (c = i) := by omega
  have hb3 : (i : Int) ≤ (n : Int) + 1 := by omega
  have hb5 : (n : Int) + 1 ≤ (c : Int) := by omega
  go_enter Tryz.func32, Tryz.ntmps32
  go_wp2_with fail
  have hov : ∀ off lb cb, (callFunc 46 #[.slice (some ⟨vb, 0, none⟩) 1 vc, .slice (some ⟨b, off, none⟩) lb cb]).run Tryz.prog w = .ok (.value (.bool false)) w := fun off lb cb => by
    rw [run_callFunc_extern Tryz.func46 (by kernel_rfl) (by kernel_rfl) (by kernel_rfl) (e := Extern.SlicesOverlaps.overlaps #[25, 25] #[4]) (by kernel_rfl),
      Lib.run_overlaps_apart w 25 4 23 Tryz.underlying25 5 (fun w => Tryz.sizeOf23 w) ⟨vb, 0, none⟩ ⟨b, off, none⟩ 1 vc lb cb hvb 23 23 5 (c * 5) (by simp [World.shape?, hv, hyl]) (by simp [World.shape?, hb, hcur]) (by omega) (by simp [World.frozen?, hv]) (by simp [World.frozen?, hv])]
    rfl
  rw [hov]
  have hdl : (cs.drop (i * 5)).length = (n - i) * 5 := by rw [List.length_drop, hcl, Nat.sub_mul]
  have hcell : ∀ j v, cs[j]? = some v → w.cell? ⟨b, j, none⟩ = some v := fun j v hj => by
    rw [blk_cell hb]
    rw [← htake, List.getElem?_take] at hj
    split at hj
    · simpa using hj
    · cases hj
  have hcl1 : cs.length ≤ cur.size := by rw [hcl, hcur]; exact Nat.mul_le_mul_right _ (by omega)
  obtain ⟨cur1, hcur1⟩ : ∃ cur1 : Array Value, cur1 = (cur.toList.take ((i + 1) * 5) ++ cs.drop (i * 5) ++ cur.toList.drop ((i + 1) * 5 + (cs.drop (i * 5)).length)).toArray := ⟨_, rfl⟩
  have hcp1 : ∀ ty dc sc, (Builtin.copy_ #[25, 25] ty #[.slice (some ⟨b, (i + 1) * 5, none⟩) (n - i) dc, .slice (some ⟨b, i * 5, none⟩) (n + 1 - i) sc]).run Tryz.prog w.drew = .ok (goInt ((n - i : Nat) : Int)) (w.drew.setRow b cur1) := fun ty dc sc => by
    have h := run_copy_rowK (P := Tryz.prog) w.drew 25 25 ty 23 5 b ((i + 1) * 5) (n - i) dc ⟨b, i * 5, none⟩ (n + 1 - i) sc cur 23 (cs.drop (i * 5)) Tryz.underlying25 (by rfl) hb (by rw [hdl]; congr 1; simp only [Nat.min_def]; split <;> omega)
      (fun j v hj => by rw [add_plain' ]; exact hcell _ v (by rwa [List.getElem?_drop] at hj)) (by rw [hdl, hcur]; omega) (fun v hv => h1c v (List.mem_of_mem_drop hv))
    rw [show Nat.min (n + 1 - i) (n - i) = n - i by simp only [Nat.min_def]; split <;> omega] at h
    rw [hcur1]
    exact h
  have hs1 : cur1.size = c * 5 := by rw [hcur1]; simp [hdl]; omega
  obtain ⟨cur2, hcur2⟩ : ∃ cur2 : Array Value, cur2 = (cur1.toList.take (i * 5) ++ ys ++ cur1.toList.drop (i * 5 + ys.length)).toArray := ⟨_, rfl⟩
  have hcp2 : ∀ (W : World), W.heap[b]? = some (.cells cur1 23 (0, 0)) → W.heap[vb]? = some (.cells ys.toArray 23 (0, 0)) → ∀ ty dc, (Builtin.copy_ #[25, 25] ty #[.slice (some ⟨b, i * 5, none⟩) (n + 1 - i) dc, .slice (some ⟨vb, 0, none⟩) 1 vc]).run Tryz.prog W = .ok (goInt 1) (W.setRow b cur2) := fun W h1 h2 ty dc => by
    have h := run_copy_rowK (P := Tryz.prog) W 25 25 ty 23 5 b (i * 5) (n + 1 - i) dc ⟨vb, 0, none⟩ 1 vc cur1 23 ys Tryz.underlying25 (by rfl) h1 (by rw [hyl]; simp only [Nat.min_def]; split <;> omega)
      (fun j v hj => by rw [add_plain']; rw [blk_cell h2]; simpa using hj) (by rw [hyl, hs1]; omega) h1v
    rw [show Nat.min 1 (n + 1 - i) = 1 by simp only [Nat.min_def]; split <;> omega] at h
    rw [hcur2]
    exact h
  have hB1 := setRow_heap w.drew b cur cur1 23 _ hb
  have hV1 := (setRow_other w.drew b vb cur1 hvb).trans hv
  have hs2 : Aside0 (cur2.size = c * 5) := ⟨by rw [hcur2]; simp [hyl, hs1]; omega⟩
  have ht2 : Aside0 (cur2.toList.take ((n + 1) * 5) = cs.take (i * 5) ++ ys ++ cs.drop (i * 5)) := ⟨by
    rw [hcur2]
    have := ins_list cur.toList ys (i * 5) 5 (n * 5) (by omega) (by simp [hcur]; omega) hyl cs cur1.toList htake (by rw [hcur1, Nat.succ_mul])
    simpa [Nat.succ_mul] using this⟩
  have hcur1E := Aside0.mk hcur1
  clear hcur1 hcur2 hov
  go_wp2_with fail
  go_region_law (refine step_copy_run rfl _ _ 25 25 rfl (.slice (some ⟨b, (i + 1) * 5, none⟩) (n - i) _) (.slice (some ⟨b, i * 5, none⟩) (n + 1 - i) _) (by simp [Act.eval, Act.put]) (by simp [Act.eval, Act.put]) (hcp1 _ _ _) ?_)
  go_wp2_with (refine wpList_copy_run _ rfl (.tmp 80) (.tmp 81) 25 25 rfl _ _ rfl rfl (hcp2 _ hB1 hV1 _ _) ?_)
  go_ret
  exact ⟨rfl, cur2, hs2.out, ht2.out, by rw [← hcur1E.out]⟩
set_option maxHeartbeats 4000000 in
set_option maxRecDepth 100000 in
theorem ins23.end_some (base b n c vb vc : Nat) (xs ys : List Value) (w : World) (HO : w.ownsRow base 23 5 (.slice (some ⟨b, 0, none⟩) n c) n xs) (hnc : n ≤ c) (hc63 : c ≤ 9223372036854775807) (hyl : ys.length = 5) (hbase : base ≤ w.heap.size) (hbig : (n + 1) * 56 ≤ 140737488355328)
    (hv : w.heap[vb]? = some (.cells ys.toArray 23 (0, 0))) (h1v : ∀ v ∈ ys, v.oneCell' = true) :
    Calls Tryz.prog 32 #[.slice (some ⟨b, 0, none⟩) n c, .int .i64 n, .slice (some ⟨vb, 0, none⟩) 1 vc] w (ins23.Post base (.slice (some ⟨b, 0, none⟩) n c) n (xs ++ ys) w) := by
  obtain ⟨i0, hi, hz0, hz1, hz2⟩ := info_parts info23'
  go_enter Tryz.func32, Tryz.ntmps32
  go_wp2_with (at_builtin; refine wpList_append_own_at _ rfl _ _ 25 rfl base 23 i0 _ 5 56 Tryz.underlying25 hi hz0 hz1 hz2 rfl (by decide) _ n xs rfl HO ⟨vb, 0, none⟩ 1 vc ys rfl (by rw [hyl]) (fun j u hj => by rw [add_plain', blk_cell hv]; simpa using hj) h1v (by unfold maxLen; omega) hbig hbase ?_; intro v' w' hown hg hnil hat)
  all_goals (go_ret; exact ⟨_, rfl, hown, hg, hat⟩)
set_option maxHeartbeats 4000000 in
set_option maxRecDepth 100000 in
theorem ins23.end_none (base vb vc : Nat) (ys : List Value) (w : World) (hyl : ys.length = 5) (hbase : base ≤ w.heap.size)
    (hv : w.heap[vb]? = some (.cells ys.toArray 23 (0, 0))) (h1v : ∀ v ∈ ys, v.oneCell' = true) :
    Calls Tryz.prog 32 #[.slice none 0 0, .int .i64 0, .slice (some ⟨vb, 0, none⟩) 1 vc] w (ins23.Post base (.slice none 0 0) 0 ys w) := by
  obtain ⟨i0, hi, hz0, hz1, hz2⟩ := info_parts info23'
  go_enter Tryz.func32, Tryz.ntmps32
  go_wp2_with (at_builtin; refine wpList_append_own_at _ rfl _ _ 25 rfl base 23 i0 _ 5 56 Tryz.underlying25 hi hz0 hz1 hz2 rfl (by decide) _ 0 [] rfl (World.ownsRow_nil w base 23 5) ⟨vb, 0, none⟩ 1 vc ys rfl (by rw [hyl]) (fun j u hj => by rw [add_plain', blk_cell hv]; simpa using hj) h1v (by unfold maxLen; omega) (by omega) hbase ?_; intro v' w' hown hg hnil hat)
  all_goals (go_ret; exact ⟨_, rfl, hown, hg, hat⟩)
set_option maxHeartbeats 4000000 in
set_option maxRecDepth 100000 in
theorem ins23.grow (base b n c i vb vc : Nat) (cs ys : List Value) (cur : Array Value) (w : World) (hi : i < n) (hnc : n ≤ c) (hroom : c < n + 1) (hvb : vb ≠ b) (hbig : (n + 1) * 56 ≤ 140737488355328)
    (hcl : cs.length = n * 5) (hyl : ys.length = 5) (hb : w.heap[b]? = some (.cells cur 23 (0, 0))) (hcur : cur.size = c * 5) (htake : cur.toList.take (n * 5) = cs)
    (hv : w.heap[vb]? = some (.cells ys.toArray 23 (0, 0))) (h1c : ∀ v ∈ cs, v.oneCell' = true) (h1v : ∀ v ∈ ys, v.oneCell' = true) (hbase : base ≤ w.heap.size) :
    Calls Tryz.prog 32 #[.slice (some ⟨b, 0, none⟩) n c, .int .i64 i, .slice (some ⟨vb, 0, none⟩) 1 vc] w (ins23.Post base (.slice (some ⟨b, 0, none⟩) n c) n (cs.take (i * 5) ++ ys ++ cs.drop (i * 5)) w) := by
  obtain ⟨i0, hi0, hz0, hzs, hzb⟩ := info_parts info23'
  have hz2 : ¬ ((i : Int) = (n : Int)) := by omega
  have hz3 : ((i : Int) == (n : Int)) = false := by simpa using hz2
  have hroom' : decide ((c : Int) < (n : Int) + 1) = true := by simp; omega
  have hw1 : IntKind.i64.wrap ((i : Int) + 1) = (i : Int) + 1 := by rw [IntKind.wrap_i64]; omega
  have hw2 : IntKind.i64.wrap ((n : Int) + 1) = (n : Int) + 1 := by rw [IntKind.wrap_i64]; omega
  have hw3 : IntKind.i64.wrap ((n : Int) + 1 - (i : Int)) = (n : Int) + 1 - (i : Int) := by rw [IntKind.wrap_i64]; omega
  have hcell : ∀ j v, cs[j]? = some v → w.cell? ⟨b, j, none⟩ = some v := fun j v hj => by
    rw [blk_cell hb]
    rw [← htake, List.getElem?_take] at hj
    split at hj
    · simpa using hj
    · cases hj
  have hkk : (n : Int) + 1 - (i : Int) = ((n + 1 - i : Nat) : Int) := by omega
  have hik : i + (n + 1 - i) = n + 1 := by omega
  have hold : (Builtin.firstCells i0.size i (.slice (some ⟨b, 0, none⟩) i c)).run Tryz.prog w.drew = .ok (cs.take (i * 5)).toArray w.drew := by
    rw [hzs]
    exact run_firstCells_some w.drew 5 i ⟨b, 0, none⟩ i c (cs.take (i * 5)) (by rw [List.length_take]; omega) (fun j v hj => by
      rw [add_plain']
      rw [List.getElem?_take] at hj
      split at hj
      · simpa using hcell j v hj
      · cases hj)
  obtain ⟨G, hG⟩ : ∃ G, G = grownCap w (n + 1) c 23 := ⟨_, rfl⟩
  obtain ⟨z, hz⟩ : ∃ z : Value, z = (.agg #[(.string ⟨#[]⟩), (.int .i64 0), (.int .i64 0), (.int .i64 0), (.string ⟨#[]⟩)]) := ⟨_, rfl⟩
  have hzc : z.cells.size = 5 := by rw [hz]; rfl
  rw [← hz] at hz0
  obtain ⟨ROW, hROW⟩ : ∃ ROW : Array Value, ROW = (cs.take (i * 5)).toArray ++ Builtin.zeroCells z.cells (n + 1 - i) ++ Builtin.zeroCells z.cells (G - (n + 1)) := ⟨_, rfl⟩
  have hrz : ∀ ty, (Builtin.append_ #[25, 3] ty #[.slice (some ⟨b, 0, none⟩) i c, .int .i64 ((n : Int) + 1 - (i : Int))]).run Tryz.prog w =
      .ok (.slice (some ⟨w.heap.size, 0, none⟩) (n + 1) G) (w.drew.alloc (.cells ROW 23)) := fun ty => by
    have h := Lib.run_append_grow_zeros w 25 3 ty 23 i0 _ .i64 .i64 Tryz.underlying25 Tryz.underlying3 hi0 hz0 (some ⟨b, 0, none⟩) i c (cs.take (i * 5)) hold (n + 1 - i) (by omega) (by omega) (by omega) (by omega) (by rw [hzb]; omega) (by rw [hzb, hik]; exact growslice_fits hroom hbig)
    rw [hik, ← hG, ← hROW] at h
    rw [hkk]
    exact h
  have hGn : n + 1 ≤ G := by rw [hG]; exact grownCap_ge w _ _ _
  have hG63 : G ≤ maxLen := by
    have := grownCap_le_maxLen w (n + 1) c 23 (by unfold maxLen; omega)
    rwa [← hG] at this
  have hRl : ROW.size = G * 5 := by
    rw [hROW]
    simp [Builtin.zeroCells, hzc, hcl]
    rw [Nat.min_eq_left (by omega)]
    omega
  have hRt : ROW.toList.take (i * 5) = cs.take (i * 5) := by
    rw [hROW]
    have hl : (cs.take (i * 5)).length = i * 5 := by rw [List.length_take, hcl]; omega
    simp only [Array.toList_append, List.append_assoc]
    rw [List.take_append_of_le_length (by omega), List.take_take, Nat.min_self]
  obtain ⟨R1, hR1⟩ : ∃ R1 : Array Value, R1 = (ROW.toList.take (i * 5) ++ ys ++ ROW.toList.drop (i * 5 + ys.length)).toArray := ⟨_, rfl⟩
  have hdl : (cs.drop (i * 5)).length = (n - i) * 5 := by rw [List.length_drop, hcl, Nat.sub_mul]
  obtain ⟨R2, hR2⟩ : ∃ R2 : Array Value, R2 = (R1.toList.take ((i + 1) * 5) ++ cs.drop (i * 5) ++ R1.toList.drop ((i + 1) * 5 + (cs.drop (i * 5)).length)).toArray := ⟨_, rfl⟩
  have hs1 : R1.size = G * 5 := by rw [hR1]; simp [hyl, hRl]; omega
  have hs2 : R2.size = G * 5 := by rw [hR2]; simp [hdl, hs1]; omega
  have ht2 : R2.toList.take ((n + 1) * 5) = cs.take (i * 5) ++ ys ++ cs.drop (i * 5) := by
    have := ins_grow cs ys ROW.toList (i * 5) 5 (by omega) hyl hRt (by simp [hRl, hcl]; omega) R1.toList (by rw [hR1])
    rw [hR2, Nat.succ_mul n 5, ← hcl, Nat.succ_mul i 5]
    simpa using this
  have hbw := blk_lt hb
  have hvw := blk_lt hv
  have hcpA : ∀ (W : World), W.heap[w.heap.size]? = some (.cells ROW 23 (0, 0)) → W.heap[vb]? = some (.cells ys.toArray 23 (0, 0)) → ∀ ty dc, (Builtin.copy_ #[25, 25] ty #[.slice (some ⟨w.heap.size, i * 5, none⟩) (n + 1 - i) dc, .slice (some ⟨vb, 0, none⟩) 1 vc]).run Tryz.prog W = .ok (goInt 1) (W.setRow w.heap.size R1) := fun W h1 h2 ty dc => by
    have h := run_copy_rowK (P := Tryz.prog) W 25 25 ty 23 5 w.heap.size (i * 5) (n + 1 - i) dc ⟨vb, 0, none⟩ 1 vc ROW 23 ys Tryz.underlying25 (by rfl) h1 (by rw [hyl]; simp only [Nat.min_def]; split <;> omega)
      (fun j v hj => by rw [add_plain']; rw [blk_cell h2]; simpa using hj) (by rw [hyl, hRl]; omega) h1v
    rw [show Nat.min 1 (n + 1 - i) = 1 by simp only [Nat.min_def]; split <;> omega] at h
    rw [hR1]
    exact h
  have hcpB : ∀ (W : World), W.heap[w.heap.size]? = some (.cells R1 23 (0, 0)) → W.heap[b]? = some (.cells cur 23 (0, 0)) → ∀ ty dc sc, (Builtin.copy_ #[25, 25] ty #[.slice (some ⟨w.heap.size, (i + 1) * 5, none⟩) (n - i) dc, .slice (some ⟨b, i * 5, none⟩) (n - i) sc]).run Tryz.prog W = .ok (goInt ((n - i : Nat) : Int)) (W.setRow w.heap.size R2) := fun W h1 h2 ty dc sc => by
    have h := run_copy_rowK (P := Tryz.prog) W 25 25 ty 23 5 w.heap.size ((i + 1) * 5) (n - i) dc ⟨b, i * 5, none⟩ (n - i) sc R1 23 (cs.drop (i * 5)) Tryz.underlying25 (by rfl) h1 (by rw [hdl]; congr 1; simp only [Nat.min_def]; split <;> omega)
      (fun j v hj => by
        rw [add_plain', blk_cell h2]
        rw [List.getElem?_drop, ← htake, List.getElem?_take] at hj
        split at hj
        · simpa using hj
        · cases hj) (by rw [hdl, hs1]; omega) (fun v hv => h1c v (List.mem_of_mem_drop hv))
    rw [show Nat.min (n - i) (n - i) = n - i by simp only [Nat.min_def]; split <;> omega] at h
    rw [hR2]
    exact h
  have HX := Aside0.mk hs2
  have HY := Aside0.mk ht2
  have HG := Aside0.mk hG63
  have htn : ((i : Int) + 1).toNat = i + 1 := by omega
  have hb1 : (0 : Int) ≤ (i : Int) + 1 := by omega
  have hin : i ≤ n := by omega
  have hb3 : (i : Int) ≤ (n : Int) := by omega
  have hG63' : G ≤ 9223372036854775807 := by unfold maxLen at hG63; omega
  have hGi : ¬ (G = i) := by omega
  have hGim : ¬ (G = i + 1) := by omega
  have hci : ¬ (c = i) := by omega
  have hN1 : (w.drew.alloc (.cells ROW 23)).heap[w.heap.size]? = some (.cells ROW 23 (0, 0)) := heap_alloc_new w.drew _
  have hNv : (w.drew.alloc (.cells ROW 23)).heap[vb]? = some (.cells ys.toArray 23 (0, 0)) := (Below.heap_alloc w.drew _ vb hvw).trans hv
  have hN2 := setRow_heap (w.drew.alloc (.cells ROW 23)) w.heap.size ROW R1 23 _ hN1
  have hNb : ((w.drew.alloc (.cells ROW 23)).setRow w.heap.size R1).heap[b]? = some (.cells cur 23 (0, 0)) := (setRow_other _ _ _ _ (by omega)).trans ((Below.heap_alloc w.drew _ b hbw).trans hb)
  have hN2' : (((w.alloc (.cells ROW 23)).drew.setRow w.heap.size R1).drew).heap[w.heap.size]? = some (.cells R1 23 (0, 0)) := hN2
  have hNb' : (((w.alloc (.cells ROW 23)).drew.setRow w.heap.size R1).drew).heap[b]? = some (.cells cur 23 (0, 0)) := hNb
  clear hkk hik hold hROW hG hRl hRt hR1 hR2 hs1 hs2 ht2 hG63 hcell hw2
  go_enter Tryz.func32, Tryz.ntmps32
  go_wp2_with (first
    | (at_builtin; refine Lib.wpList_append_run _ rfl _ _ _ _ rfl _ _ rfl rfl _ _ (hrz _) ?_)
    | (refine wpList_copy_run _ rfl (.tmp 43) (.tmp 44) 25 25 rfl _ _ rfl rfl (hcpA _ hN1 hNv _ _) ?_))
  go_region_law (refine step_copy_run rfl _ _ 25 25 rfl (.slice (some ⟨w.heap.size, (i + 1) * 5, none⟩) (n - i) (G - (i + 1))) (.slice (some ⟨b, i * 5, none⟩) (n - i) (c - i)) (by simp [Act.eval, Act.put]) (by simp [Act.eval, Act.put]) (hcpB _ hN2' hNb' 3 (G - (i + 1)) (c - i)) ?_)
  go_wp2
  go_ret
  refine ⟨_, rfl, ⟨by simp [hcl, hyl]; omega, .inr ⟨w.heap.size, G, R2, rfl, hbase, ?_, by omega, HG.out, HX.out, HY.out⟩⟩, ⟨rfl, rfl, rfl, ?_, ?_⟩, .inr rfl⟩
  · exact setRow_heap _ w.heap.size R1 R2 23 _ hN2
  · have hs := (World.grownBy_alloc w (.cells ROW 23) none).size
    simp [World.setRow]
  · intro k hk _
    have hne : k ≠ w.heap.size := by omega
    exact ((setRow_other _ _ _ _ hne).trans (setRow_other _ _ _ _ hne)).trans (Below.heap_alloc w.drew _ k hk)
theorem ins23.own (base n i vb vc : Nat) (v : Value) (xs ys : List Value) (w : World) (HO : w.ownsRow base 23 5 v n xs) (hi : i ≤ n) (hyl : ys.length = 5) (hbase : base ≤ w.heap.size) (hbig : (n + 1) * 56 ≤ 140737488355328)
    (hv : w.heap[vb]? = some (.cells ys.toArray 23 (0, 0))) (hvb : some vb ≠ v.ownBlock) (h1x : ∀ u ∈ xs, u.oneCell' = true) (h1v : ∀ u ∈ ys, u.oneCell' = true) :
    Calls Tryz.prog 32 #[v, .int .i64 i, .slice (some ⟨vb, 0, none⟩) 1 vc] w (ins23.Post base v n (xs.take (i * 5) ++ ys ++ xs.drop (i * 5)) w) := by
  have HO0 := HO
  obtain ⟨hl, ⟨rfl, rfl⟩ | ⟨g, cap, cur, rfl, hg, hh, hnc, hc, hcs, ht⟩⟩ := HO
  · obtain rfl : i = 0 := by omega
    obtain rfl : xs = [] := List.eq_nil_of_length_eq_zero (by simpa using hl)
    simpa using ins23.end_none base vb vc ys w hyl hbase hv h1v
  · have hne : vb ≠ g := fun e => hvb (by rw [e]; rfl)
    have hc63 : cap ≤ 9223372036854775807 := by unfold maxLen at hc; omega
    by_cases hin : i = n
    · subst hin
      have e1 : xs.take (i * 5) ++ ys ++ xs.drop (i * 5) = xs ++ ys := by
        rw [List.take_of_length_le (by omega), List.drop_of_length_le (by omega)]
        simp
      rw [e1]
      exact ins23.end_some base g i cap vb vc xs ys w HO0 hnc hc63 hyl hbase hbig hv h1v
    · by_cases hr : n + 1 ≤ cap
      · refine (ins23.shift g n cap i vb vc xs ys cur w (by omega) hr hc63 hne hl hyl hh hcs ht hv h1x h1v).mono ?_
        rintro e w' ⟨rfl, cur', hs, htk, rfl⟩
        have h1 := setRow_heap w.drew g cur (cur.toList.take ((i + 1) * 5) ++ xs.drop (i * 5) ++ cur.toList.drop ((i + 1) * 5 + (xs.drop (i * 5)).length)).toArray 23 (0, 0) hh
        refine ⟨_, rfl, ⟨by simp [hl, hyl]; omega, .inr ⟨g, cap, cur', rfl, hg, setRow_heap _ g _ cur' 23 _ h1, hr, hc, hs, htk⟩⟩, ⟨rfl, rfl, rfl, by simp [World.setRow], ?_⟩, .inl rfl⟩
        intro k hk hne2
        have hne3 : k ≠ g := fun e => hne2 (by rw [e]; rfl)
        exact (setRow_other _ _ _ _ hne3).trans (setRow_other _ _ _ _ hne3)
      · exact ins23.grow base g n cap i vb vc xs ys cur w (by omega) hnc (by omega) hne hbig hl hyl hh hcs ht hv h1x h1v hbase
end Go.Proofs.YtfabnapjbgamaaaGreatDoor.MPred
namespace Go.Proofs.YtfabnapjbgamaaaGreatDoor.MPred
open Go.RowKit Go.Lib Go.Proofs.YtfabnapjbgamaaaGreatDoorW.PrintWords Go.Proofs.YtfabnapjbgamaaaGreatDoorW.PrintLast Go.Proofs.YtfabnapjbgamaaaGreatDoorW.PrintMore
set_option linter.unusedVariables false
set_option linter.unusedSimpArgs false
theorem countP_boundary {α : Type} (d : α) (p : α → Bool) : ∀ (l : List α) (i : Nat), i ≤ l.length → (∀ t, t < i → p (l.getD t d) = true) → (∀ t, i ≤ t → t < l.length → p (l.getD t d) = false) → l.countP p = i
  | [], i, hi, _, _ => by simp at hi; simp [hi]
  | a :: r, 0, _, _, h2 => by
    rw [List.countP_eq_zero]
    intro x hx
    obtain ⟨t, ht, rfl⟩ := List.getElem_of_mem hx
    have := h2 t (Nat.zero_le _) ht
    rw [List.getD_eq_getElem?_getD, List.getElem?_eq_getElem ht] at this
    simpa using this
  | a :: r, i + 1, hi, h1, h2 => by
    have ha : p a = true := by simpa using h1 0 (Nat.succ_pos _)
    rw [List.countP_cons_of_pos ha, countP_boundary d p r i (by simpa using hi) (fun t ht => by simpa using h1 (t + 1) (by omega)) (fun t h3 h4 => by simpa using h2 (t + 1) (by omega) (by simpa using h4))]
set_option maxHeartbeats 4000000 in
set_option maxRecDepth 1000000 in
theorem bs23 (tv : Value) (cft : S23 → Int) (g : Nat) (cb : Array Value) (A : Option Addr) (c : Nat) (l : List S23) (w : World)
    (eg : ∀ args w, (callFunc g args).run Tryz.prog w = .ok (.enter g args) w)
    (hcmp : ∀ (x : S23) (W : World), Calls Tryz.prog g (#[.agg #[.string x.f0, .int .i64 x.f1, .int .i64 x.f2, .int .i64 x.f3, .string x.f4], tv] ++ cb) W fun e w' => e = .returned (.int .i64 (cft x)) ∧ Below W.heap.size W w')
    (hC : Kd.C k23 w A l.length l) (hsz : l.length < 4611686018427387904)
    (hmono : ∀ a b, a ≤ b → b < l.length → cft (l.getD b z23) < 0 → cft (l.getD a z23) < 0) :
    Calls Tryz.prog 29 #[.slice A l.length c, tv, .func (.func g) #[] cb] w fun e w' =>
      e = .returned (.tuple #[.int .i64 (l.countP (fun x => decide (cft x < 0)) : Nat), .bool (decide (l.countP (fun x => decide (cft x < 0)) < l.length) && decide (cft (l.getD (l.countP (fun x => decide (cft x < 0))) z23) = 0))]) ∧ Below w.heap.size w w' := by
  have hu23 := Tryz.underlying23
  have HC := Aside0.mk hcmp
  have S0 := Aside0.mk (Below.refl w.heap.size w)
  have M := Aside0.mk hmono
  have HR := Aside0.mk hC
  clear hcmp hmono hC
  generalize hcnt : l.countP (fun x => decide (cft x < 0)) = cnt
  have CN := Aside0.mk hcnt
  clear hcnt
  generalize hfin : (decide (cnt < l.length) && decide (cft (l.getD cnt z23) = 0)) = fin
  have FIN := Aside0.mk hfin
  clear hfin
  obtain ⟨n, hn⟩ : ∃ n, n = l.length := ⟨_, rfl⟩
  have HN := Aside0.mk hn
  rw [← hn] at hsz ⊢
  clear hn
  go_enter Tryz.func29, Tryz.ntmps29
  go_wp2
  go_loopg [9, 10] n (fun kx s9 s10 wr => ∃ lo hi : Nat, s9 = .int .i64 lo ∧ s10 = .int .i64 hi ∧ lo ≤ hi ∧ hi ≤ n ∧ hi - lo ≤ kx ∧ Aside0 (Below w.heap.size w wr) ∧
    Aside0 ((∀ t, t < lo → cft (l.getD t z23) < 0) ∧ (∀ t, hi ≤ t → t < n → 0 ≤ cft (l.getD t z23))))
  case atStart => exact ⟨0, n, rfl, rfl, Nat.zero_le _, Nat.le_refl _, by omega, S0, ⟨fun t ht => absurd ht (Nat.not_lt_zero _), fun t h1 h2 => by omega⟩⟩
  case round =>
    clear S0
    obtain ⟨lo, hi, rfl, rfl, hlh, hin, hg, S1, I⟩ := hrel
    by_cases hlt : lo < hi
    · have hC1 := Kd.C_below HR.out S1.out
      obtain ⟨ad, rfl, x0, x1, x2, x3, x4⟩ := at_T23 hC1 (((lo + hi) / 2 : Nat) : Int) (by omega) (by have := HN.out; omega)
      simp only [Int.toNat_natCast] at x0 x1 x2 x3 x4
      have Y0 : rd_T23 l (((lo + hi) / 2 : Nat) : Int) = l.getD ((lo + hi) / 2) z23 := by unfold rd_T23; rw [Int.toNat_natCast]
      rw [Y0] at x0 x1 x2 x3 x4
      clear Y0 hC1
      generalize hy : l.getD ((lo + hi) / 2) z23 = y at x0 x1 x2 x3 x4
      have Y := Aside0.mk hy
      clear hy
      have hc := HC.out y
      by_cases hyx : cft y < 0
      · go_wp2_with (go_at_fn g; refine (hc _).mono ?_; rintro e w' ⟨rfl, hb⟩)
        go_roundg (hi - ((lo + hi) / 2 + 1))
        case measure => omega
        case rel =>
          have S2 := Aside0.mk (below_then S1.out S1.out.size hb)
          have I2 : Aside0 ((∀ t, t < (lo + hi) / 2 + 1 → cft (l.getD t z23) < 0) ∧ (∀ t, hi ≤ t → t < n → 0 ≤ cft (l.getD t z23))) := ⟨fun t ht => M.out t ((lo + hi) / 2) (by omega) (by have := HN.out; omega) (by rw [Y.out]; exact hyx), I.out.2⟩
          exact ⟨(lo + hi) / 2 + 1, hi, by rw [show ((lo : Int) + (hi : Int)) / 2 + 1 = (((lo + hi) / 2 + 1 : Nat) : Int) by omega], rfl, by omega, hin, Nat.le_refl _, S2, I2⟩
      · go_wp2_with (go_at_fn g; refine (hc _).mono ?_; rintro e w' ⟨rfl, hb⟩)
        go_roundg ((lo + hi) / 2 - lo)
        case measure => omega
        case rel =>
          have S2 := Aside0.mk (below_then S1.out S1.out.size hb)
          have I2 : Aside0 ((∀ t, t < lo → cft (l.getD t z23) < 0) ∧ (∀ t, (lo + hi) / 2 ≤ t → t < n → 0 ≤ cft (l.getD t z23))) := ⟨I.out.1, fun t ht htn => Int.not_lt.1 fun h => by have := M.out ((lo + hi) / 2) t ht (by have := HN.out; omega) h; rw [Y.out] at this; omega⟩
          exact ⟨lo, (lo + hi) / 2, rfl, by rw [show ((lo : Int) + (hi : Int)) / 2 = (((lo + hi) / 2 : Nat) : Int) by omega], by omega, by omega, Nat.le_refl _, S2, I2⟩
    · obtain rfl : hi = lo := by omega
      have ecnt : cnt = hi := by
        rw [← CN.out]
        refine countP_boundary z23 _ l hi (by have := HN.out; omega) (fun t ht => ?_) (fun t h3 h4 => ?_)
        · exact decide_eq_true (I.out.1 t ht)
        · exact decide_eq_false (by have := I.out.2 t h3 (by have := HN.out; omega); omega)
      subst ecnt
      by_cases hn : cnt < n
      · have hC1 := Kd.C_below HR.out S1.out
        obtain ⟨ad, rfl, x0, x1, x2, x3, x4⟩ := at_T23 hC1 (cnt : Int) (by omega) (by have := HN.out; omega)
        simp only [Int.toNat_natCast] at x0 x1 x2 x3 x4
        have Y0 : rd_T23 l (cnt : Int) = l.getD cnt z23 := by unfold rd_T23; rw [Int.toNat_natCast]
        rw [Y0] at x0 x1 x2 x3 x4
        clear Y0 hC1
        generalize hy : l.getD cnt z23 = y at x0 x1 x2 x3 x4
        have Y := Aside0.mk hy
        clear hy
        have hc := HC.out y
        go_wp2_with (go_at_fn g; refine (hc _).mono ?_; rintro e w' ⟨rfl, hb⟩)
        all_goals (go_ret2; exact ⟨by rw [← FIN.out, Y.out, ← HN.out]; simp [*]; try (rw [Bool.eq_iff_iff]; simp), below_then S1.out S1.out.size hb⟩)
      · go_wp2
        go_ret2
        exact ⟨by rw [← FIN.out, ← HN.out]; simp [hn], S1.out⟩
abbrev cmpB (a b : ByteArray) : Int := Lib.compareBytes a.data.toList b.data.toList
set_option maxRecDepth 1000000 in
theorem strings_Compare.calls (a b : ByteArray) (w : World) :
    Calls Tryz.prog 31 #[.string a, .string b] w fun e w' => e = .returned (.int .i64 (cmpB a b)) ∧ w = w' := by
  go_enter Tryz.func31, Tryz.ntmps31
  go_wp2
  rw [run_callFunc_extern Tryz.func58 (by kernel_rfl) (by kernel_rfl) (by kernel_rfl) (e := Extern.BytealgCompare.compare) (by kernel_rfl), Lib.run_compareString]
  simp only [Result.andThen]
  rw [Oper.upon_value]
  go_wp2
  go_ret
  exact ⟨rfl, rfl⟩
set_option maxRecDepth 1000000 in
theorem cmp23.calls (x : S23) (s : ByteArray) (W : World) :
    Calls Tryz.prog 30 (#[.agg #[.string x.f0, .int .i64 x.f1, .int .i64 x.f2, .int .i64 x.f3, .string x.f4], .string s] ++ #[]) W fun e w' => e = .returned (.int .i64 (cmpB x.f0 s)) ∧ Below W.heap.size W w' := by
  have hu23 := Tryz.underlying23
  show Calls Tryz.prog 30 #[.agg #[.string x.f0, .int .i64 x.f1, .int .i64 x.f2, .int .i64 x.f3, .string x.f4], .string s] W _
  go_enter Tryz.func30, Tryz.ntmps30
  go_wp2_with (go_at_call 31; refine (strings_Compare.calls _ _ _).mono ?_; rintro e w' ⟨rfl, rfl⟩)
  go_ret
  exact ⟨rfl, below_alloc (Below.refl _ _) _⟩
theorem fault_New.some (s : ByteArray) (n : Int) (t : TypeId) (v : Value) (w : World) :
    Calls Tryz.prog 28 #[.string s, .int .i64 n, .iface t v] w fun e w' => e = .returned (.iface 73 (.pointer (some ⟨w.heap.size, 0, none⟩))) ∧ Below w.heap.size w w' := by
  have hu77 := Tryz.underlying77
  go_enter Tryz.func28, Tryz.ntmps28
  go_wp2
  go_ret
  exact ⟨rfl, below_alloc (Below.refl _ _) _⟩
abbrev enc23 (x : S23) : List Value := [.string x.f0, .int .i64 x.f1, .int .i64 x.f2, .int .i64 x.f3, .string x.f4]
def flat23 : List S23 → List Value
  | [] => []
  | x :: r => .string x.f0 :: .int .i64 x.f1 :: .int .i64 x.f2 :: .int .i64 x.f3 :: .string x.f4 :: flat23 r
theorem flat23_length : ∀ xs : List S23, (flat23 xs).length = xs.length * 5
  | [] => rfl
  | x :: r => by simp [flat23, flat23_length r, Nat.succ_mul]
theorem flat23_append : ∀ xs ys : List S23, flat23 (xs ++ ys) = flat23 xs ++ flat23 ys
  | [], _ => rfl
  | x :: r, ys => by simp [flat23, flat23_append r ys]
theorem flat23_take : ∀ (xs : List S23) (i : Nat), (flat23 xs).take (i * 5) = flat23 (xs.take i)
  | [], i => by simp [flat23]
  | x :: r, 0 => by simp [flat23]
  | x :: r, i + 1 => by
    rw [Nat.succ_mul, flat23]
    simp only [List.take_succ_cons]
    rw [flat23_take r i, flat23]
theorem flat23_drop : ∀ (xs : List S23) (i : Nat), (flat23 xs).drop (i * 5) = flat23 (xs.drop i)
  | [], i => by simp [flat23]
  | x :: r, 0 => by simp
  | x :: r, i + 1 => by
    rw [Nat.succ_mul, flat23]
    simp only [List.drop_succ_cons]
    exact flat23_drop r i
theorem flat23_set : ∀ (xs : List S23) (k : Nat) (y : S23), k < xs.length →
    ((((((flat23 xs).set (k * 5) (.string y.f0)).set (k * 5 + 1) (.int .i64 y.f1)).set (k * 5 + 2) (.int .i64 y.f2)).set (k * 5 + 3) (.int .i64 y.f3)).set (k * 5 + 4) (.string y.f4)) = flat23 (xs.set k y)
  | [], k, y, h => by simp at h
  | x :: r, 0, y, h => by simp [flat23]
  | x :: r, k + 1, y, h => by
    rw [Nat.succ_mul, flat23]
    have := flat23_set r k y (by simpa using h)
    simp only [List.set_cons_succ, flat23, ← this]
theorem flat23_one : ∀ (xs : List S23), ∀ u ∈ flat23 xs, u.oneCell' = true
  | [], u, h => by simp [flat23] at h
  | x :: r, u, h => by
    simp only [flat23, List.mem_cons] at h
    rcases h with rfl | rfl | rfl | rfl | rfl | h
    · rfl
    · rfl
    · rfl
    · rfl
    · rfl
    · exact flat23_one r u h
theorem flat23_reps (w : World) (base : Nat) (ok : Nat → Prop) : ∀ xs : List S23, Reps (k23.M w base ok) 5 xs (flat23 xs) := by
  intro xs
  refine ⟨flat23_length xs, fun j p hj => ?_⟩
  have hlt : j < xs.length := (List.getElem?_eq_some_iff.1 hj).1
  rw [flat23_drop]
  have : xs.drop j = p :: xs.drop (j + 1) := by
    rw [List.getElem?_eq_getElem hlt] at hj
    rw [List.drop_eq_getElem_cons hlt, Option.some.inj hj]
  rw [this]
  exact k23_mkM w base ok p
theorem R_of_flat {w : World} {base : Nat} {v : Value} {xs : List S23} (h : w.ownsRow base 23 5 v xs.length (flat23 xs)) : Kd.R k23 23 w base (fun _ => True) v xs :=
  ⟨fun _ _ => trivial, flat23 xs, h, flat23_reps _ _ _ _⟩
theorem own_cell_set {w : World} {base e size n g cap : Nat} {xs : List Value} (h : w.ownsRow base e size (.slice (some ⟨g, 0, none⟩) n cap) n xs) (j : Nat) (hj : j < xs.length) (u : Value) :
    (w.setCell ⟨g, j, none⟩ u).ownsRow base e size (.slice (some ⟨g, 0, none⟩) n cap) n (xs.set j u) := by
  obtain ⟨hl, ⟨h0, _⟩ | ⟨g', cap', cur, he, hg, hh, hnc, hc, hcs, ht⟩⟩ := h
  · cases h0
  · injection he with e1 e2 e3
    injection e1 with e1
    injection e1 with e1
    subst e1
    subst e3
    refine ⟨by simp [hl], .inr ⟨g, cap, cur.setIfInBounds j u, rfl, hg, blk_set hh j u, hnc, hc, by simp [hcs], ?_⟩⟩
    rw [Array.toList_setIfInBounds, List.take_set, ht]
theorem cb_self : ∀ a : List UInt8, Lib.compareBytes a a = 0
  | [] => rfl
  | a :: al => by
    unfold Lib.compareBytes
    rw [if_neg (by simp), if_neg (by simp)]
    exact cb_self al
theorem cb_eq : ∀ a b : List UInt8, Lib.compareBytes a b = 0 → a = b
  | [], [], _ => rfl
  | [], _ :: _, h => by simp [Lib.compareBytes] at h
  | _ :: _, [], h => by simp [Lib.compareBytes] at h
  | a :: al, b :: bs, h => by
    unfold Lib.compareBytes at h
    split at h
    · cases h
    · split at h
      · cases h
      · rename_i h1 h2
        have : a = b := UInt8.le_antisymm (UInt8.not_lt.1 h2) (UInt8.not_lt.1 h1)
        rw [this, cb_eq al bs h]
theorem cb_anti : ∀ a b : List UInt8, Lib.compareBytes b a = - Lib.compareBytes a b
  | [], [] => rfl
  | [], _ :: _ => rfl
  | _ :: _, [] => rfl
  | a :: al, b :: bs => by
    unfold Lib.compareBytes
    by_cases h1 : a < b
    · rw [if_neg (UInt8.lt_asymm h1), if_pos h1, if_pos h1]
      rfl
    · by_cases h2 : b < a
      · rw [if_pos h2, if_neg h1, if_pos h2]
      · rw [if_neg h2, if_neg h1, if_neg h1, if_neg h2]
        exact cb_anti al bs
theorem cb_trans : ∀ a b c : List UInt8, Lib.compareBytes a b < 0 → Lib.compareBytes b c < 0 → Lib.compareBytes a c < 0
  | [], [], _, h, _ => by simp [Lib.compareBytes] at h
  | [], _ :: _, [], _, h => by simp [Lib.compareBytes] at h
  | [], _ :: _, _ :: _, _, _ => by simp [Lib.compareBytes]
  | _ :: _, [], _, h, _ => by simp [Lib.compareBytes] at h
  | _ :: _, _ :: _, [], _, h => by simp [Lib.compareBytes] at h
  | a :: al, b :: bs, c :: cs, h1, h2 => by
    unfold Lib.compareBytes at h1 h2 ⊢
    by_cases x : a < b
    · by_cases y : b < c
      · rw [if_pos (UInt8.lt_trans x y)]; decide
      · rw [if_neg y] at h2
        by_cases z : c < b
        · rw [if_pos z] at h2; omega
        · have : b = c := UInt8.le_antisymm (UInt8.not_lt.1 z) (UInt8.not_lt.1 y)
          subst this
          rw [if_pos x]; decide
    · rw [if_neg x] at h1
      by_cases x' : b < a
      · rw [if_pos x'] at h1; omega
      · have : a = b := UInt8.le_antisymm (UInt8.not_lt.1 x') (UInt8.not_lt.1 x)
        subst this
        rw [if_neg x] at h1
        by_cases y : a < c
        · rw [if_pos y]; decide
        · rw [if_neg y] at h2 ⊢
          by_cases z : c < a
          · rw [if_pos z] at h2; omega
          · rw [if_neg z] at h2 ⊢
            exact cb_trans al bs cs h1 h2
theorem ba_ext {a b : ByteArray} (h : a.data.toList = b.data.toList) : a = b := by
  cases a; cases b
  simp only [ByteArray.mk.injEq]
  exact Array.toList_inj.1 h
theorem cmpB_self (a : ByteArray) : cmpB a a = 0 := cb_self _
theorem cmpB_eq {a b : ByteArray} (h : cmpB a b = 0) : a = b := ba_ext (cb_eq _ _ h)
theorem cmpB_anti (a b : ByteArray) : cmpB b a = - cmpB a b := cb_anti _ _
theorem cmpB_trans {a b c : ByteArray} (h : cmpB a b < 0) (k : cmpB b c < 0) : cmpB a c < 0 := cb_trans _ _ _ h k
/-- A row by rising names. -/
def Rises (l : List S23) : Prop := ∀ a b, a < b → b < l.length → cmpB (l.getD a z23).f0 (l.getD b z23).f0 < 0
theorem Rises.mono {l : List S23} (h : Rises l) (s : ByteArray) : ∀ a b, a ≤ b → b < l.length → cmpB (l.getD b z23).f0 s < 0 → cmpB (l.getD a z23).f0 s < 0 := by
  intro a b hab hb hs
  rcases Nat.lt_or_ge a b with h1 | h1
  · exact cmpB_trans (h a b h1 hb) hs
  · obtain rfl : a = b := by omega
    exact hs
theorem countP_lt {l : List S23} (p : S23 → Bool) (hp : ∀ a b, a ≤ b → b < l.length → p (l.getD b z23) = true → p (l.getD a z23) = true) : (∀ t, t < l.countP p → p (l.getD t z23) = true) ∧ ∀ t, l.countP p ≤ t → t < l.length → p (l.getD t z23) = false := by
  have key : ∃ i, i ≤ l.length ∧ (∀ t, t < i → p (l.getD t z23) = true) ∧ ∀ t, i ≤ t → t < l.length → p (l.getD t z23) = false := by
    by_cases hall : ∀ t, t < l.length → p (l.getD t z23) = true
    · exact ⟨l.length, Nat.le_refl _, hall, fun t h1 h2 => by omega⟩
    · have hex : ∃ t, t < l.length ∧ p (l.getD t z23) = false := by
        apply Classical.byContradiction
        intro hn
        refine hall fun t ht => ?_
        cases hq : p (l.getD t z23) with
        | true => rfl
        | false => exact absurd ⟨t, ht, hq⟩ hn
      have hd : ∀ n, (∃ t, t ≤ n ∧ t < l.length ∧ p (l.getD t z23) = false) → ∃ i, i < l.length ∧ p (l.getD i z23) = false ∧ ∀ t, t < i → p (l.getD t z23) = true := by
        intro n
        induction n with
        | zero =>
          rintro ⟨t, h0, h1, h2⟩
          obtain rfl : t = 0 := by omega
          exact ⟨0, h1, h2, fun t ht => by omega⟩
        | succ n ih =>
          rintro ⟨t, h0, h1, h2⟩
          by_cases hlow : ∃ t, t ≤ n ∧ t < l.length ∧ p (l.getD t z23) = false
          · exact ih hlow
          · refine ⟨t, h1, h2, fun s hs => ?_⟩
            cases hq : p (l.getD s z23) with
            | true => rfl
            | false => exact absurd ⟨s, by omega, by omega, hq⟩ hlow
      obtain ⟨t, h1, h2⟩ := hex
      obtain ⟨i, hi, hf, ht⟩ := hd t ⟨t, Nat.le_refl _, h1, h2⟩
      refine ⟨i, by omega, ht, fun s hs hsl => ?_⟩
      cases hq : p (l.getD s z23) with
      | false => rfl
      | true => have := hp i s hs hsl hq; rw [hf] at this; cases this
  obtain ⟨i, hi, h1, h2⟩ := key
  rw [countP_boundary z23 p l i hi h1 h2]
  exact ⟨h1, h2⟩
end Go.Proofs.YtfabnapjbgamaaaGreatDoor.MPred
