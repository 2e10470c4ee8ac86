import Derived.Test.YtfabnapjbgamaaaGreatDoorMPredx2
import Derived.Lib.Overlaps
import Derived.Lib.SliceRun
import Derived.Lib.AppendZerosOnto
import Derived.Laws.CopyRow
import Derived.Laws.CopyOwn
import Derived.Laws.Externs
import Derived.Deep.RegionLaw
import Derived.WalkSpells
namespace Go.Proofs.YtfabnapjbgamaaaGreatDoor.MPred
open Go.RowKit Go.Lib Go.Proofs.YtfabnapjbgamaaaGreatDoorW.PrintWords Go.Proofs.YtfabnapjbgamaaaGreatDoorW.PrintLast Go.Proofs.YtfabnapjbgamaaaGreatDoorW.PrintMore
set_option linter.unusedVariables false
set_option linter.unusedSimpArgs false
theorem ins_list {α : Type} (L ys : List α) (a k m : Nat) (ha : a ≤ m) (hm : m + k ≤ L.length) (hk : ys.length = k) (cs L1 : List α) (hcs : L.take m = cs)
    (hL1 : L1 = L.take (a + k) ++ cs.drop a ++ L.drop (a + k + (cs.drop a).length)) :
    (L1.take a ++ ys ++ L1.drop (a + ys.length)).take (m + k) = cs.take a ++ ys ++ cs.drop a := by
  have hcl : cs.length = m := by rw [← hcs, List.length_take]; omega
  have hta : (L.take (a + k)).length = a + k := by rw [List.length_take]; omega
  have e1 : L1.take a = cs.take a := by
    rw [hL1, List.append_assoc, List.take_append_of_le_length (by omega), List.take_take, ← hcs, List.take_take]
    congr 1
    omega
  have e2 : L1.drop (a + ys.length) = cs.drop a ++ L.drop (a + k + (cs.drop a).length) := by
    rw [hL1, List.append_assoc, List.drop_append_of_le_length (by omega), List.drop_of_length_le (by omega), List.nil_append]
  rw [e1, e2, ← List.append_assoc]
  have hl : (cs.take a ++ ys ++ cs.drop a).length = m + k := by simp; omega
  rw [← hl, List.take_left']
  rfl
theorem add_plain' (b o j : Nat) : (⟨b, o, none⟩ : Addr).add j = ⟨b, o + j, none⟩ := by unfold Addr.add; split <;> simp_all
theorem run_copy_rowK {P : Program} (w : World) (dT sT ty elem : TypeId) (K g o dLen dCap : Nat) (a : Addr) (sLen sCap : Nat) (cur : Array Value) (t : TypeId) (cs : List Value)
    (hu : P.underlying dT = some (.slice elem)) (hs : (P.info? elem).map (·.size) = some K)
    (hg : w.heap[g]? = some (.cells cur t (0, 0))) (hn : cs.length = Nat.min sLen dLen * K)
    (hsrc : ∀ j v, cs[j]? = some v → w.cell? (a.add j) = some v) (hfit : o + cs.length ≤ cur.size) (h1 : ∀ v ∈ cs, v.oneCell' = true) :
    (Builtin.copy_ #[dT, sT] ty #[.slice (some ⟨g, o, none⟩) dLen dCap, .slice (some a) sLen sCap]).run P w =
      .ok (goInt (Nat.min sLen dLen)) (w.setRow g (cur.toList.take o ++ cs ++ cur.toList.drop (o + cs.length)).toArray) := by
  have hl := run_loadCells_list (P := P) w a cs hsrc
  have hst := run_storeCells_at P g o t cs 0 cur w hg (by simpa using hfit) h1
  cases hq : P.info? elem with
  | none => simp [hq] at hs
  | some i =>
    have hi : i.size = K := by simpa [hq] using hs
    simp [Builtin.copy_, run_underlying hu, Builtin.lenOf, Builtin.firstCells, sizeOf, typeInfo, hq, hi, ← hn, hl, hst]
theorem wpList_copy_run {P : Program} (w : World) {ops : Array Oper} {rest : List Oper} {o : Oper} {a : Act} {Q : Exit → Act → World → Prop} (hgd : o.guard = none) (d s : Operand) (t t' : TypeId)
    (ho : o.op = .call { callee := .builtin .copy, args := #[d, s], argTypes := #[t, t'] }) (v u : Value) (hd : a.eval d = v) (hs : a.eval s = u) {v' : Value} {w' : World}
    (hr : (Builtin.copy_ #[t, t'] o.type #[v, u]).run P w = .ok v' w') (h : wpList P ops Q rest (a.put o.dst v') w') : wpList P ops Q (o :: rest) a w :=
  wpList_plain hgd fun K hK => by
    unfold Oper.wp execOp
    simp only [ho, resolve, invoke, builtin, Sem.run_bind, Sem.run_pure, Result.andThen_ok, List.map_toArray, List.map_cons, List.map_nil, hd, hs, hr]
    exact hK _ _ h
theorem step_copy_run {P : Program} {ops : Array Oper} {o : Oper} {a : Act} {w : World} {K : Act → World → Prop} {Q : Exit → Act → World → Prop} {E : Prop}
    (hg : o.guard = none) (d x : Operand) (dT sT : TypeId) (hop : o.op = Op.call { callee := Callee.builtin Builtin.copy, args := #[d, x], argTypes := #[dT, sT] })
    (v u : Value) (hd : a.eval d = v) (hx : a.eval x = u) {v' : Value} {w' : World} (hr : (Builtin.copy_ #[dT, sT] o.type #[v, u]).run P w = .ok v' w') (hK : K (a.put o.dst v') w') :
    if Region.wanted o (yielded ops a.tmps) = true then Oper.wp P o a w K Q else E := by
  have hw : Region.wanted o (yielded ops a.tmps) = true := by simp [Region.wanted, hg]
  rw [if_pos hw]
  unfold Oper.wp
  simp [execOp, hop, resolve, invoke, builtin, hd, hx, hr, Result.andThen]
  exact hK
theorem ins_grow {α : Type} (cs ys R : List α) (a k : Nat) (ha : a ≤ cs.length) (hk : ys.length = k) (hR : R.take a = cs.take a) (hl : cs.length + k ≤ R.length) (R1 : List α) (hR1 : R1 = R.take a ++ ys ++ R.drop (a + ys.length)) :
    (R1.take (a + k) ++ cs.drop a ++ R1.drop (a + k + (cs.drop a).length)).take (cs.length + k) = cs.take a ++ ys ++ cs.drop a := by
  have e1 : R1.take (a + k) = cs.take a ++ ys := by
    have hl1 : (R.take a ++ ys).length = a + k := by simp [hk]; omega
    rw [hR1, ← hl1, List.take_left', hR]
    rfl
  rw [e1]
  have hl2 : (cs.take a ++ ys ++ cs.drop a).length = cs.length + k := by simp; omega
  rw [← hl2, List.take_left']
  rfl
theorem info23' : (Tryz.prog.info? 23).map (fun i => (i.zero, i.size, i.bytes)) = some (some (.agg #[(.string ⟨#[]⟩), (.int .i64 0), (.int .i64 0), (.int .i64 0), (.string ⟨#[]⟩)]), 5, 56) := by kernel_rfl
def ins23.Post (base : Nat) (v : Value) (n : Nat) (xs' : List Value) (w : World) (e : Ending) (w' : World) : Prop :=
  ∃ v', e = .returned v' ∧ w'.ownsRow base 23 5 v' (n + 1) xs' ∧ w.grownBy w' v.ownBlock ∧ (v'.ownBlock = v.ownBlock ∨ v'.ownBlock = some w.heap.size)
set_option maxHeartbeats 4000000 in
set_option maxRecDepth 100000 in
theorem ins23.shift (b n c i vb vc : Nat) (cs ys : List Value) (cur : Array Value) (w : World) (hi : i < n) (hroom : n + 1 ≤ c) (hc63 : c ≤ 9223372036854775807) (hvb : vb ≠ b)
    (hcl : cs.length = n * 5) (hyl : ys.length = 5) (hb : w.heap[b]? = some (.cells cur 23 (0, 0))) (hcur : cur.size = c * 5) (htake : cur.toList.take (n * 5) = cs)
    (hv : w.heap[vb]? = some (.cells ys.toArray 23 (0, 0))) (h1c : ∀ v ∈ cs, v.oneCell' = true) (h1v : ∀ v ∈ ys, v.oneCell' = true) :
    Calls Tryz.prog 32 #[.slice (some ⟨b, 0, none⟩) n c, .int .i64 i, .slice (some ⟨vb, 0, none⟩) 1 vc] w fun e w' =>
      e = .returned (.slice (some ⟨b, 0, none⟩) (n + 1) c) ∧ ∃ cur', cur'.size = c * 5 ∧ cur'.toList.take ((n + 1) * 5) = cs.take (i * 5) ++ ys ++ cs.drop (i * 5) ∧ w' = (w.drew.setRow b (cur.toList.take ((i + 1) * 5) ++ cs.drop (i * 5) ++ cur.toList.drop ((i + 1) * 5 + (cs.drop (i * 5)).length)).toArray).setRow b cur' := by
  have u25 := run_underlying (P := Tryz.prog) Tryz.underlying25
  have hz1 : ¬ ((1 : Int) = 0) := by omega
  have hz2 : ¬ ((i : Int) = (n : Int)) := by omega
  have hz3 : ((i : Int) == (n : Int)) = false := by simpa using hz2
  have hroom' : decide ((c : Int) < (n : Int) + 1) = false := by simp; omega
  have hw1 : IntKind.i64.wrap ((i : Int) + 1) = (i : Int) + 1 := by rw [IntKind.wrap_i64]; omega
  have hw2 : IntKind.i64.wrap ((n : Int) + 1) = (n : Int) + 1 := by rw [IntKind.wrap_i64]; omega
  have hb1 : (0 : Int) ≤ (i : Int) + 1 := by omega
  have hin : i ≤ n := by omega
  have hin' : i + 1 ≤ n + 1 := by omega
  have htn : ((i : Int) + 1).toNat = i + 1 := by omega
  have htn2 : ((n : Int) + 1).toNat = n + 1 := by omega
  have hb2 : ¬ (c = i + 1) := by omega
  have hb4 : ¬ (c = i) := by omega
  have hb3 : (i : Int) ≤ (n : Int) + 1 := by omega
  have hb5 : (n : Int) + 1 ≤ (c : Int) := by omega
  go_enter Tryz.func32, Tryz.ntmps32
  go_wp2_with fail
  have hov : ∀ off lb cb, (callFunc 46 #[.slice (some ⟨vb, 0, none⟩) 1 vc, .slice (some ⟨b, off, none⟩) lb cb]).run Tryz.prog w = .ok (.value (.bool false)) w := fun off lb cb => by
    rw [run_callFunc_extern Tryz.func46 (by kernel_rfl) (by kernel_rfl) (by kernel_rfl) (e := Extern.SlicesOverlaps.overlaps #[25, 25] #[4]) (by kernel_rfl),
      Lib.run_overlaps_apart w 25 4 23 Tryz.underlying25 5 (fun w => Tryz.sizeOf23 w) ⟨vb, 0, none⟩ ⟨b, off, none⟩ 1 vc lb cb hvb 23 23 5 (c * 5) (by simp [World.shape?, hv, hyl]) (by simp [World.shape?, hb, hcur]) (by omega) (by simp [World.frozen?, hv]) (by simp [World.frozen?, hv])]
    rfl
  rw [hov]
  have hdl : (cs.drop (i * 5)).length = (n - i) * 5 := by rw [List.length_drop, hcl, Nat.sub_mul]
  have hcell : ∀ j v, cs[j]? = some v → w.cell? ⟨b, j, none⟩ = some v := fun j v hj => by
    rw [blk_cell hb]
    rw [← htake, List.getElem?_take] at hj
    split at hj
    · simpa using hj
    · cases hj
  have hcl1 : cs.length ≤ cur.size := by rw [hcl, hcur]; exact Nat.mul_le_mul_right _ (by omega)
  obtain ⟨cur1, hcur1⟩ : ∃ cur1 : Array Value, cur1 = (cur.toList.take ((i + 1) * 5) ++ cs.drop (i * 5) ++ cur.toList.drop ((i + 1) * 5 + (cs.drop (i * 5)).length)).toArray := ⟨_, rfl⟩
  have hcp1 : ∀ ty dc sc, (Builtin.copy_ #[25, 25] ty #[.slice (some ⟨b, (i + 1) * 5, none⟩) (n - i) dc, .slice (some ⟨b, i * 5, none⟩) (n + 1 - i) sc]).run Tryz.prog w.drew = .ok (goInt ((n - i : Nat) : Int)) (w.drew.setRow b cur1) := fun ty dc sc => by
    have h := run_copy_rowK (P := Tryz.prog) w.drew 25 25 ty 23 5 b ((i + 1) * 5) (n - i) dc ⟨b, i * 5, none⟩ (n + 1 - i) sc cur 23 (cs.drop (i * 5)) Tryz.underlying25 (by rfl) hb (by rw [hdl]; congr 1; simp only [Nat.min_def]; split <;> omega)
      (fun j v hj => by rw [add_plain' ]; exact hcell _ v (by rwa [List.getElem?_drop] at hj)) (by rw [hdl, hcur]; omega) (fun v hv => h1c v (List.mem_of_mem_drop hv))
    rw [show Nat.min (n + 1 - i) (n - i) = n - i by simp only [Nat.min_def]; split <;> omega] at h
    rw [hcur1]
    exact h
  have hs1 : cur1.size = c * 5 := by rw [hcur1]; simp [hdl]; omega
  obtain ⟨cur2, hcur2⟩ : ∃ cur2 : Array Value, cur2 = (cur1.toList.take (i * 5) ++ ys ++ cur1.toList.drop (i * 5 + ys.length)).toArray := ⟨_, rfl⟩
  have hcp2 : ∀ (W : World), W.heap[b]? = some (.cells cur1 23 (0, 0)) → W.heap[vb]? = some (.cells ys.toArray 23 (0, 0)) → ∀ ty dc, (Builtin.copy_ #[25, 25] ty #[.slice (some ⟨b, i * 5, none⟩) (n + 1 - i) dc, .slice (some ⟨vb, 0, none⟩) 1 vc]).run Tryz.prog W = .ok (goInt 1) (W.setRow b cur2) := fun W h1 h2 ty dc => by
    have h := run_copy_rowK (P := Tryz.prog) W 25 25 ty 23 5 b (i * 5) (n + 1 - i) dc ⟨vb, 0, none⟩ 1 vc cur1 23 ys Tryz.underlying25 (by rfl) h1 (by rw [hyl]; simp only [Nat.min_def]; split <;> omega)
      (fun j v hj => by rw [add_plain']; rw [blk_cell h2]; simpa using hj) (by rw [hyl, hs1]; omega) h1v
    rw [show Nat.min 1 (n + 1 - i) = 1 by simp only [Nat.min_def]; split <;> omega] at h
    rw [hcur2]
    exact h
  have hB1 := setRow_heap w.drew b cur cur1 23 _ hb
  have hV1 := (setRow_other w.drew b vb cur1 hvb).trans hv
  have hs2 : Aside0 (cur2.size = c * 5) := ⟨by rw [hcur2]; simp [hyl, hs1]; omega⟩
  have ht2 : Aside0 (cur2.toList.take ((n + 1) * 5) = cs.take (i * 5) ++ ys ++ cs.drop (i * 5)) := ⟨by
    rw [hcur2]
    have := ins_list cur.toList ys (i * 5) 5 (n * 5) (by omega) (by simp [hcur]; omega) hyl cs cur1.toList htake (by rw [hcur1, Nat.succ_mul])
    simpa [Nat.succ_mul] using this⟩
  have hcur1E := Aside0.mk hcur1
  clear hcur1 hcur2 hov
  go_wp2_with fail
  go_region_law (refine step_copy_run rfl _ _ 25 25 rfl (.slice (some ⟨b, (i + 1) * 5, none⟩) (n - i) _) (.slice (some ⟨b, i * 5, none⟩) (n + 1 - i) _) (by simp [Act.eval, Act.put]) (by simp [Act.eval, Act.put]) (hcp1 _ _ _) ?_)
  go_wp2_with (refine wpList_copy_run _ rfl (.tmp 80) (.tmp 81) 25 25 rfl _ _ rfl rfl (hcp2 _ hB1 hV1 _ _) ?_)
  go_ret
  exact ⟨rfl, cur2, hs2.out, ht2.out, by rw [← hcur1E.out]⟩
set_option maxHeartbeats 4000000 in
set_option maxRecDepth 100000 in
theorem ins23.end_some (base b n c vb vc : Nat) (xs ys : List Value) (w : World) (HO : w.ownsRow base 23 5 (.slice (some ⟨b, 0, none⟩) n c) n xs) (hnc : n ≤ c) (hc63 : c ≤ 9223372036854775807) (hyl : ys.length = 5) (hbase : base ≤ w.heap.size) (hbig : (n + 1) * 56 ≤ 140737488355328)
    (hv : w.heap[vb]? = some (.cells ys.toArray 23 (0, 0))) (h1v : ∀ v ∈ ys, v.oneCell' = true) :
    Calls Tryz.prog 32 #[.slice (some ⟨b, 0, none⟩) n c, .int .i64 n, .slice (some ⟨vb, 0, none⟩) 1 vc] w (ins23.Post base (.slice (some ⟨b, 0, none⟩) n c) n (xs ++ ys) w) := by
  obtain ⟨i0, hi, hz0, hz1, hz2⟩ := info_parts info23'
  go_enter Tryz.func32, Tryz.ntmps32
  go_wp2_with (at_builtin; refine wpList_append_own_at _ rfl _ _ 25 rfl base 23 i0 _ 5 56 Tryz.underlying25 hi hz0 hz1 hz2 rfl (by decide) _ n xs rfl HO ⟨vb, 0, none⟩ 1 vc ys rfl (by rw [hyl]) (fun j u hj => by rw [add_plain', blk_cell hv]; simpa using hj) h1v (by unfold maxLen; omega) hbig hbase ?_; intro v' w' hown hg hnil hat)
  all_goals (go_ret; exact ⟨_, rfl, hown, hg, hat⟩)
set_option maxHeartbeats 4000000 in
set_option maxRecDepth 100000 in
theorem ins23.end_none (base vb vc : Nat) (ys : List Value) (w : World) (hyl : ys.length = 5) (hbase : base ≤ w.heap.size)
    (hv : w.heap[vb]? = some (.cells ys.toArray 23 (0, 0))) (h1v : ∀ v ∈ ys, v.oneCell' = true) :
    Calls Tryz.prog 32 #[.slice none 0 0, .int .i64 0, .slice (some ⟨vb, 0, none⟩) 1 vc] w (ins23.Post base (.slice none 0 0) 0 ys w) := by
  obtain ⟨i0, hi, hz0, hz1, hz2⟩ := info_parts info23'
  go_enter Tryz.func32, Tryz.ntmps32
  go_wp2_with (at_builtin; refine wpList_append_own_at _ rfl _ _ 25 rfl base 23 i0 _ 5 56 Tryz.underlying25 hi hz0 hz1 hz2 rfl (by decide) _ 0 [] rfl (World.ownsRow_nil w base 23 5) ⟨vb, 0, none⟩ 1 vc ys rfl (by rw [hyl]) (fun j u hj => by rw [add_plain', blk_cell hv]; simpa using hj) h1v (by unfold maxLen; omega) (by omega) hbase ?_; intro v' w' hown hg hnil hat)
  all_goals (go_ret; exact ⟨_, rfl, hown, hg, hat⟩)
set_option maxHeartbeats 4000000 in
set_option maxRecDepth 100000 in
theorem ins23.grow (base b n c i vb vc : Nat) (cs ys : List Value) (cur : Array Value) (w : World) (hi : i < n) (hnc : n ≤ c) (hroom : c < n + 1) (hvb : vb ≠ b) (hbig : (n + 1) * 56 ≤ 140737488355328)
    (hcl : cs.length = n * 5) (hyl : ys.length = 5) (hb : w.heap[b]? = some (.cells cur 23 (0, 0))) (hcur : cur.size = c * 5) (htake : cur.toList.take (n * 5) = cs)
    (hv : w.heap[vb]? = some (.cells ys.toArray 23 (0, 0))) (h1c : ∀ v ∈ cs, v.oneCell' = true) (h1v : ∀ v ∈ ys, v.oneCell' = true) (hbase : base ≤ w.heap.size) :
    Calls Tryz.prog 32 #[.slice (some ⟨b, 0, none⟩) n c, .int .i64 i, .slice (some ⟨vb, 0, none⟩) 1 vc] w (ins23.Post base (.slice (some ⟨b, 0, none⟩) n c) n (cs.take (i * 5) ++ ys ++ cs.drop (i * 5)) w) := by
  obtain ⟨i0, hi0, hz0, hzs, hzb⟩ := info_parts info23'
  have hz2 : ¬ ((i : Int) = (n : Int)) := by omega
  have hz3 : ((i : Int) == (n : Int)) = false := by simpa using hz2
  have hroom' : decide ((c : Int) < (n : Int) + 1) = true := by simp; omega
  have hw1 : IntKind.i64.wrap ((i : Int) + 1) = (i : Int) + 1 := by rw [IntKind.wrap_i64]; omega
  have hw2 : IntKind.i64.wrap ((n : Int) + 1) = (n : Int) + 1 := by rw [IntKind.wrap_i64]; omega
  have hw3 : IntKind.i64.wrap ((n : Int) + 1 - (i : Int)) = (n : Int) + 1 - (i : Int) := by rw [IntKind.wrap_i64]; omega
  have hcell : ∀ j v, cs[j]? = some v → w.cell? ⟨b, j, none⟩ = some v := fun j v hj => by
    rw [blk_cell hb]
    rw [← htake, List.getElem?_take] at hj
    split at hj
    · simpa using hj
    · cases hj
  have hkk : (n : Int) + 1 - (i : Int) = ((n + 1 - i : Nat) : Int) := by omega
  have hik : i + (n + 1 - i) = n + 1 := by omega
  have hold : (Builtin.firstCells i0.size i (.slice (some ⟨b, 0, none⟩) i c)).run Tryz.prog w.drew = .ok (cs.take (i * 5)).toArray w.drew := by
    rw [hzs]
    exact run_firstCells_some w.drew 5 i ⟨b, 0, none⟩ i c (cs.take (i * 5)) (by rw [List.length_take]; omega) (fun j v hj => by
      rw [add_plain']
      rw [List.getElem?_take] at hj
      split at hj
      · simpa using hcell j v hj
      · cases hj)
  obtain ⟨G, hG⟩ : ∃ G, G = grownCap w (n + 1) c 23 := ⟨_, rfl⟩
  obtain ⟨z, hz⟩ : ∃ z : Value, z = (.agg #[(.string ⟨#[]⟩), (.int .i64 0), (.int .i64 0), (.int .i64 0), (.string ⟨#[]⟩)]) := ⟨_, rfl⟩
  have hzc : z.cells.size = 5 := by rw [hz]; rfl
  rw [← hz] at hz0
  obtain ⟨ROW, hROW⟩ : ∃ ROW : Array Value, ROW = (cs.take (i * 5)).toArray ++ Builtin.zeroCells z.cells (n + 1 - i) ++ Builtin.zeroCells z.cells (G - (n + 1)) := ⟨_, rfl⟩
  have hrz : ∀ ty, (Builtin.append_ #[25, 3] ty #[.slice (some ⟨b, 0, none⟩) i c, .int .i64 ((n : Int) + 1 - (i : Int))]).run Tryz.prog w =
      .ok (.slice (some ⟨w.heap.size, 0, none⟩) (n + 1) G) (w.drew.alloc (.cells ROW 23)) := fun ty => by
    have h := Lib.run_append_grow_zeros w 25 3 ty 23 i0 _ .i64 .i64 Tryz.underlying25 Tryz.underlying3 hi0 hz0 (some ⟨b, 0, none⟩) i c (cs.take (i * 5)) hold (n + 1 - i) (by omega) (by omega) (by omega) (by omega) (by rw [hzb]; omega) (by rw [hzb, hik]; exact growslice_fits hroom hbig)
    rw [hik, ← hG, ← hROW] at h
    rw [hkk]
    exact h
  have hGn : n + 1 ≤ G := by rw [hG]; exact grownCap_ge w _ _ _
  have hG63 : G ≤ maxLen := by
    have := grownCap_le_maxLen w (n + 1) c 23 (by unfold maxLen; omega)
    rwa [← hG] at this
  have hRl : ROW.size = G * 5 := by
    rw [hROW]
    simp [Builtin.zeroCells, hzc, hcl]
    rw [Nat.min_eq_left (by omega)]
    omega
  have hRt : ROW.toList.take (i * 5) = cs.take (i * 5) := by
    rw [hROW]
    have hl : (cs.take (i * 5)).length = i * 5 := by rw [List.length_take, hcl]; omega
    simp only [Array.toList_append, List.append_assoc]
    rw [List.take_append_of_le_length (by omega), List.take_take, Nat.min_self]
  obtain ⟨R1, hR1⟩ : ∃ R1 : Array Value, R1 = (ROW.toList.take (i * 5) ++ ys ++ ROW.toList.drop (i * 5 + ys.length)).toArray := ⟨_, rfl⟩
  have hdl : (cs.drop (i * 5)).length = (n - i) * 5 := by rw [List.length_drop, hcl, Nat.sub_mul]
  obtain ⟨R2, hR2⟩ : ∃ R2 : Array Value, R2 = (R1.toList.take ((i + 1) * 5) ++ cs.drop (i * 5) ++ R1.toList.drop ((i + 1) * 5 + (cs.drop (i * 5)).length)).toArray := ⟨_, rfl⟩
  have hs1 : R1.size = G * 5 := by rw [hR1]; simp [hyl, hRl]; omega
  have hs2 : R2.size = G * 5 := by rw [hR2]; simp [hdl, hs1]; omega
  have ht2 : R2.toList.take ((n + 1) * 5) = cs.take (i * 5) ++ ys ++ cs.drop (i * 5) := by
    have := ins_grow cs ys ROW.toList (i * 5) 5 (by omega) hyl hRt (by simp [hRl, hcl]; omega) R1.toList (by rw [hR1])
    rw [hR2, Nat.succ_mul n 5, ← hcl, Nat.succ_mul i 5]
    simpa using this
  have hbw := blk_lt hb
  have hvw := blk_lt hv
  have hcpA : ∀ (W : World), W.heap[w.heap.size]? = some (.cells ROW 23 (0, 0)) → W.heap[vb]? = some (.cells ys.toArray 23 (0, 0)) → ∀ ty dc, (Builtin.copy_ #[25, 25] ty #[.slice (some ⟨w.heap.size, i * 5, none⟩) (n + 1 - i) dc, .slice (some ⟨vb, 0, none⟩) 1 vc]).run Tryz.prog W = .ok (goInt 1) (W.setRow w.heap.size R1) := fun W h1 h2 ty dc => by
    have h := run_copy_rowK (P := Tryz.prog) W 25 25 ty 23 5 w.heap.size (i * 5) (n + 1 - i) dc ⟨vb, 0, none⟩ 1 vc ROW 23 ys Tryz.underlying25 (by rfl) h1 (by rw [hyl]; simp only [Nat.min_def]; split <;> omega)
      (fun j v hj => by rw [add_plain']; rw [blk_cell h2]; simpa using hj) (by rw [hyl, hRl]; omega) h1v
    rw [show Nat.min 1 (n + 1 - i) = 1 by simp only [Nat.min_def]; split <;> omega] at h
    rw [hR1]
    exact h
  have hcpB : ∀ (W : World), W.heap[w.heap.size]? = some (.cells R1 23 (0, 0)) → W.heap[b]? = some (.cells cur 23 (0, 0)) → ∀ ty dc sc, (Builtin.copy_ #[25, 25] ty #[.slice (some ⟨w.heap.size, (i + 1) * 5, none⟩) (n - i) dc, .slice (some ⟨b, i * 5, none⟩) (n - i) sc]).run Tryz.prog W = .ok (goInt ((n - i : Nat) : Int)) (W.setRow w.heap.size R2) := fun W h1 h2 ty dc sc => by
    have h := run_copy_rowK (P := Tryz.prog) W 25 25 ty 23 5 w.heap.size ((i + 1) * 5) (n - i) dc ⟨b, i * 5, none⟩ (n - i) sc R1 23 (cs.drop (i * 5)) Tryz.underlying25 (by rfl) h1 (by rw [hdl]; congr 1; simp only [Nat.min_def]; split <;> omega)
      (fun j v hj => by
        rw [add_plain', blk_cell h2]
        rw [List.getElem?_drop, ← htake, List.getElem?_take] at hj
        split at hj
        · simpa using hj
        · cases hj) (by rw [hdl, hs1]; omega) (fun v hv => h1c v (List.mem_of_mem_drop hv))
    rw [show Nat.min (n - i) (n - i) = n - i by simp only [Nat.min_def]; split <;> omega] at h
    rw [hR2]
    exact h
  have HX := Aside0.mk hs2
  have HY := Aside0.mk ht2
  have HG := Aside0.mk hG63
  have htn : ((i : Int) + 1).toNat = i + 1 := by omega
  have hb1 : (0 : Int) ≤ (i : Int) + 1 := by omega
  have hin : i ≤ n := by omega
  have hb3 : (i : Int) ≤ (n : Int) := by omega
  have hG63' : G ≤ 9223372036854775807 := by unfold maxLen at hG63; omega
  have hGi : ¬ (G = i) := by omega
  have hGim : ¬ (G = i + 1) := by omega
  have hci : ¬ (c = i) := by omega
  have hN1 : (w.drew.alloc (.cells ROW 23)).heap[w.heap.size]? = some (.cells ROW 23 (0, 0)) := heap_alloc_new w.drew _
  have hNv : (w.drew.alloc (.cells ROW 23)).heap[vb]? = some (.cells ys.toArray 23 (0, 0)) := (Below.heap_alloc w.drew _ vb hvw).trans hv
  have hN2 := setRow_heap (w.drew.alloc (.cells ROW 23)) w.heap.size ROW R1 23 _ hN1
  have hNb : ((w.drew.alloc (.cells ROW 23)).setRow w.heap.size R1).heap[b]? = some (.cells cur 23 (0, 0)) := (setRow_other _ _ _ _ (by omega)).trans ((Below.heap_alloc w.drew _ b hbw).trans hb)
  have hN2' : (((w.alloc (.cells ROW 23)).drew.setRow w.heap.size R1).drew).heap[w.heap.size]? = some (.cells R1 23 (0, 0)) := hN2
  have hNb' : (((w.alloc (.cells ROW 23)).drew.setRow w.heap.size R1).drew).heap[b]? = some (.cells cur 23 (0, 0)) := hNb
  clear hkk hik hold hROW hG hRl hRt hR1 hR2 hs1 hs2 ht2 hG63 hcell hw2
  go_enter Tryz.func32, Tryz.ntmps32
  go_wp2_with (first
    | (at_builtin; refine Lib.wpList_append_run _ rfl _ _ _ _ rfl _ _ rfl rfl _ _ (hrz _) ?_)
    | (refine wpList_copy_run _ rfl (.tmp 43) (.tmp 44) 25 25 rfl _ _ rfl rfl (hcpA _ hN1 hNv _ _) ?_))
  go_region_law (refine step_copy_run rfl _ _ 25 25 rfl (.slice (some ⟨w.heap.size, (i + 1) * 5, none⟩) (n - i) (G - (i + 1))) (.slice (some ⟨b, i * 5, none⟩) (n - i) (c - i)) (by simp [Act.eval, Act.put]) (by simp [Act.eval, Act.put]) (hcpB _ hN2' hNb' 3 (G - (i + 1)) (c - i)) ?_)
  go_wp2
  go_ret
  refine ⟨_, rfl, ⟨by simp [hcl, hyl]; omega, .inr ⟨w.heap.size, G, R2, rfl, hbase, ?_, by omega, HG.out, HX.out, HY.out⟩⟩, ⟨rfl, rfl, rfl, ?_, ?_⟩, .inr rfl⟩
  · exact setRow_heap _ w.heap.size R1 R2 23 _ hN2
  · have hs := (World.grownBy_alloc w (.cells ROW 23) none).size
    simp [World.setRow]
  · intro k hk _
    have hne : k ≠ w.heap.size := by omega
    exact ((setRow_other _ _ _ _ hne).trans (setRow_other _ _ _ _ hne)).trans (Below.heap_alloc w.drew _ k hk)
theorem ins23.own (base n i vb vc : Nat) (v : Value) (xs ys : List Value) (w : World) (HO : w.ownsRow base 23 5 v n xs) (hi : i ≤ n) (hyl : ys.length = 5) (hbase : base ≤ w.heap.size) (hbig : (n + 1) * 56 ≤ 140737488355328)
    (hv : w.heap[vb]? = some (.cells ys.toArray 23 (0, 0))) (hvb : some vb ≠ v.ownBlock) (h1x : ∀ u ∈ xs, u.oneCell' = true) (h1v : ∀ u ∈ ys, u.oneCell' = true) :
    Calls Tryz.prog 32 #[v, .int .i64 i, .slice (some ⟨vb, 0, none⟩) 1 vc] w (ins23.Post base v n (xs.take (i * 5) ++ ys ++ xs.drop (i * 5)) w) := by
  have HO0 := HO
  obtain ⟨hl, ⟨rfl, rfl⟩ | ⟨g, cap, cur, rfl, hg, hh, hnc, hc, hcs, ht⟩⟩ := HO
  · obtain rfl : i = 0 := by omega
    obtain rfl : xs = [] := List.eq_nil_of_length_eq_zero (by simpa using hl)
    simpa using ins23.end_none base vb vc ys w hyl hbase hv h1v
  · have hne : vb ≠ g := fun e => hvb (by rw [e]; rfl)
    have hc63 : cap ≤ 9223372036854775807 := by unfold maxLen at hc; omega
    by_cases hin : i = n
    · subst hin
      have e1 : xs.take (i * 5) ++ ys ++ xs.drop (i * 5) = xs ++ ys := by
        rw [List.take_of_length_le (by omega), List.drop_of_length_le (by omega)]
        simp
      rw [e1]
      exact ins23.end_some base g i cap vb vc xs ys w HO0 hnc hc63 hyl hbase hbig hv h1v
    · by_cases hr : n + 1 ≤ cap
      · refine (ins23.shift g n cap i vb vc xs ys cur w (by omega) hr hc63 hne hl hyl hh hcs ht hv h1x h1v).mono ?_
        rintro e w' ⟨rfl, cur', hs, htk, rfl⟩
        have h1 := setRow_heap w.drew g cur (cur.toList.take ((i + 1) * 5) ++ xs.drop (i * 5) ++ cur.toList.drop ((i + 1) * 5 + (xs.drop (i * 5)).length)).toArray 23 (0, 0) hh
        refine ⟨_, rfl, ⟨by simp [hl, hyl]; omega, .inr ⟨g, cap, cur', rfl, hg, setRow_heap _ g _ cur' 23 _ h1, hr, hc, hs, htk⟩⟩, ⟨rfl, rfl, rfl, by simp [World.setRow], ?_⟩, .inl rfl⟩
        intro k hk hne2
        have hne3 : k ≠ g := fun e => hne2 (by rw [e]; rfl)
        exact (setRow_other _ _ _ _ hne3).trans (setRow_other _ _ _ _ hne3)
      · exact ins23.grow base g n cap i vb vc xs ys cur w (by omega) hnc (by omega) hne hbig hl hyl hh hcs ht hv h1x h1v hbase
end Go.Proofs.YtfabnapjbgamaaaGreatDoor.MPred
