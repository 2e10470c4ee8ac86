import Derived.Test.YtfkkefhijhjaaaaDoorErE
/-! The faults of a chain, and their operations. -/
namespace Go.Proofs.YtfkkefhijhjaaaaDoor.Er
open Go.RowKit Go.Extern.Stop Go.Stop Go.Extern Go.Proofs.YtfkkefhijhjaaaaDoorW.PrintWords
set_option linter.unusedVariables false
set_option linter.unusedSimpArgs false
theorem elinfo86 : (Tryd.prog.info? 86).map (fun i => (i.zero, i.size, i.bytes)) = some (some (.pointer none), 1, 8) := by kernel_rfl
theorem run_app117 {W : World} {base g : Nat} {v x : Value} {xs : List Value} (HO : W.ownsRow base 86 1 v xs.length xs) (hg : W.heap[g]? = some (.cells #[x] 86 (0, 0))) (hx : x.oneCell' = true) (hbase : base ≤ W.heap.size) (hl : xs.length ≤ 1000000) :
    ∃ v1 w1, (Builtin.append_ #[117, 117] 117 #[v, .slice (some ⟨g, 0, none⟩) 1 1]).run Tryd.prog W = .ok v1 w1 ∧ w1.ownsRow base 86 1 v1 (xs ++ [x]).length (xs ++ [x]) ∧ W.grownBy w1 v.ownBlock ∧ (v1.ownBlock = v.ownBlock ∨ v1.ownBlock = some W.heap.size) := by
  obtain ⟨i0, hi, hzz⟩ := Option.map_eq_some_iff.1 elinfo86
  simp only [Prod.mk.injEq] at hzz
  obtain ⟨hz0, hz1, hz2⟩ := hzz
  obtain ⟨v1, w1, h1, h2, h3, _, h4⟩ := run_append_own_at (P := Tryd.prog) W base 117 117 86 i0 _ 1 8 Tryd.underlying117 hi hz0 hz1 hz2 rfl (by omega) v xs.length xs HO ⟨g, 0, none⟩ 1 1 [x] rfl
    (fun j u hj => by
      cases j with
      | zero => simp only [List.getElem?_cons_zero, Option.some.injEq] at hj; subst hj; exact (cell_of hg 0).trans rfl
      | succ j => simp at hj) (by simpa using hx) (by simp only [maxLen]; omega) (by omega) hbase
  exact ⟨v1, w1, h1, by rw [List.length_append]; exact h2, h3, h4⟩
section
variable {ops : Array Oper} {o : Oper} {rest : List Oper} {a : Act}
theorem wpList_app117 {W : World} {Q : Exit → Act → World → Prop} (hgd : o.guard = none) (s x : Operand) (ho : o.op = .call { callee := .builtin .append, args := #[s, x], argTypes := #[117, 117] }) (ht : o.type = 117) {base g : Nat} {v u : Value} {xs : List Value} (hs : a.eval s = v) (hx : a.eval x = .slice (some ⟨g, 0, none⟩) 1 1)
    (HO : W.ownsRow base 86 1 v xs.length xs) (hg : W.heap[g]? = some (.cells #[u] 86 (0, 0))) (hu : u.oneCell' = true) (hbase : base ≤ W.heap.size) (hl : xs.length ≤ 1000000)
    (h : ∀ v1 w1, w1.ownsRow base 86 1 v1 (xs ++ [u]).length (xs ++ [u]) → W.grownBy w1 v.ownBlock → (v1.ownBlock = v.ownBlock ∨ v1.ownBlock = some W.heap.size) → wpList Tryd.prog ops Q rest (a.put o.dst v1) w1) :
    wpList Tryd.prog ops Q (o :: rest) a W := by
  obtain ⟨v1, w1, hr1, h1, hgr, hat⟩ := run_app117 HO hg hu hbase hl
  refine wpList_plain hgd fun K hK => ?_
  unfold Oper.wp execOp
  simp only [ho, ht, resolve, invoke, builtin, Sem.run_bind, Sem.run_pure, Result.andThen_ok, List.map_toArray, List.map_cons, List.map_nil, hs, hx, hr1]
  exact hK _ _ (h v1 w1 h1 hgr hat)
end
theorem elinfo9 : (Tryd.prog.info? 9).map (fun i => (i.zero, i.size, i.bytes)) = some (some (.string ⟨#[]⟩), 1, 16) := by kernel_rfl
theorem run_app76 {W : World} {base g : Nat} {v x : Value} {xs : List Value} (HO : W.ownsRow base 9 1 v xs.length xs) (hg : W.heap[g]? = some (.cells #[x] 9 (0, 0))) (hx : x.oneCell' = true) (hbase : base ≤ W.heap.size) (hl : xs.length ≤ 1000000) :
    ∃ v1 w1, (Builtin.append_ #[76, 76] 76 #[v, .slice (some ⟨g, 0, none⟩) 1 1]).run Tryd.prog W = .ok v1 w1 ∧ w1.ownsRow base 9 1 v1 (xs ++ [x]).length (xs ++ [x]) ∧ W.grownBy w1 v.ownBlock ∧ (v1.ownBlock = v.ownBlock ∨ v1.ownBlock = some W.heap.size) := by
  obtain ⟨i0, hi, hzz⟩ := Option.map_eq_some_iff.1 elinfo9
  simp only [Prod.mk.injEq] at hzz
  obtain ⟨hz0, hz1, hz2⟩ := hzz
  obtain ⟨v1, w1, h1, h2, h3, _, h4⟩ := run_append_own_at (P := Tryd.prog) W base 76 76 9 i0 _ 1 16 Tryd.underlying76 hi hz0 hz1 hz2 rfl (by omega) v xs.length xs HO ⟨g, 0, none⟩ 1 1 [x] rfl
    (fun j u hj => by
      cases j with
      | zero => simp only [List.getElem?_cons_zero, Option.some.injEq] at hj; subst hj; exact (cell_of hg 0).trans rfl
      | succ j => simp at hj) (by simpa using hx) (by simp only [maxLen]; omega) (by omega) hbase
  exact ⟨v1, w1, h1, by rw [List.length_append]; exact h2, h3, h4⟩
section
variable {ops : Array Oper} {o : Oper} {rest : List Oper} {a : Act}
theorem wpList_app76 {W : World} {Q : Exit → Act → World → Prop} (hgd : o.guard = none) (s x : Operand) (ho : o.op = .call { callee := .builtin .append, args := #[s, x], argTypes := #[76, 76] }) (ht : o.type = 76) {base g : Nat} {v u : Value} {xs : List Value} (hs : a.eval s = v) (hx : a.eval x = .slice (some ⟨g, 0, none⟩) 1 1)
    (HO : W.ownsRow base 9 1 v xs.length xs) (hg : W.heap[g]? = some (.cells #[u] 9 (0, 0))) (hu : u.oneCell' = true) (hbase : base ≤ W.heap.size) (hl : xs.length ≤ 1000000)
    (h : ∀ v1 w1, w1.ownsRow base 9 1 v1 (xs ++ [u]).length (xs ++ [u]) → W.grownBy w1 v.ownBlock → (v1.ownBlock = v.ownBlock ∨ v1.ownBlock = some W.heap.size) → wpList Tryd.prog ops Q rest (a.put o.dst v1) w1) :
    wpList Tryd.prog ops Q (o :: rest) a W := by
  obtain ⟨v1, w1, hr1, h1, hgr, hat⟩ := run_app76 HO hg hu hbase hl
  refine wpList_plain hgd fun K hK => ?_
  unfold Oper.wp execOp
  simp only [ho, ht, resolve, invoke, builtin, Sem.run_bind, Sem.run_pure, Result.andThen_ok, List.map_toArray, List.map_cons, List.map_nil, hs, hx, hr1]
  exact hK _ _ (h v1 w1 h1 hgr hat)
end
def Err.chain : Nat → Err → List (Nat × ByteArray)
  | 0, _ => []
  | n + 1, e => match e.firstF with
    | none => []
    | some (g, op, _, e1) => (g, op) :: Err.chain n e1
def ptrs (l : List (Nat × ByteArray)) : List Value := l.map fun z => .pointer (some ⟨z.1, 0, none⟩)
def texts (l : List (Nat × ByteArray)) : List Value := l.map fun z => .string z.2
theorem chain_len : ∀ (n : Nat) (e : Err), (e.chain n).length ≤ n
  | 0, _ => Nat.le_refl _
  | n + 1, e => by
    simp only [Err.chain]
    split
    · simp
    · rename_i g op a e1 he
      simp only [List.length_cons]
      have := chain_len n e1
      omega
theorem chain_ok : ∀ (n : Nat) {e : Err} {w : World}, e.ok w → ∀ z ∈ e.chain n, ∃ a v, w.heap[z.1]? = some (.cells #[.string z.2, .int .i64 a, v] 89 (0, 0))
  | 0, _, _, _, z, hz => by cases hz
  | n + 1, e, w, h, z, hz => by
    simp only [Err.chain] at hz
    split at hz
    · cases hz
    · rename_i g op a e1 he
      have hf := (Err.firstF_ok h he).1
      rcases List.mem_cons.1 hz with rfl | hz
      · exact ⟨_, _, hf.1⟩
      · exact chain_ok n hf.2 z hz
theorem own_base {W : World} {base sz n : Nat} {et : TypeId} {v : Value} {xs : List Value} (h : W.ownsRow base et sz v n xs) : ∀ q, v.ownBlock = some q → base ≤ q := by
  intro q hq
  rcases h.2 with ⟨rfl, _⟩ | ⟨g, cap, cur, rfl, h1, _⟩
  · simp [Value.ownBlock] at hq
  · simp [Value.ownBlock] at hq
    omega
theorem below_app {w W w3 : World} {tb sz n : Nat} {et : TypeId} {v : Value} {xs : List Value} {o : Obj} (hb : Below tb w W) (HO : W.ownsRow tb et sz v n xs) (hg : (W.alloc o).grownBy w3 v.ownBlock) (hle : tb ≤ W.heap.size) : Below tb w w3 :=
  pw_below_grown (hb.alloc hle _) _ (by simp; omega) hg (fun q hq => own_base HO q hq)
theorem below_grown_app {w1 wo w3 : World} {v : Value} {o : Obj} (hb : Below w1.heap.size w1 wo) (hg : (wo.alloc o).grownBy w3 v.ownBlock) (hn : ∀ q, v.ownBlock = some q → w1.heap.size ≤ q) : Below w1.heap.size w1 w3 :=
  pw_below_grown (hb.alloc hb.size _) _ (by have := hb.size; simp; omega) hg hn
theorem app_keep {W w3 : World} {g : Nat} {v : Value} {o o' : Obj} (hg : (W.alloc o).grownBy w3 v.ownBlock) (h : W.heap[g]? = some o') (hne : v.ownBlock ≠ some g) : w3.heap[g]? = some o' :=
  (hg.block g (by have := lt_of_get h; simp; omega) (fun e => hne e.symm)).trans (get_alloc h o)
set_option maxHeartbeats 4000000 in
set_option maxRecDepth 100000 in
theorem faults_any (e : Err) (w : World) (ht : Typ w) (hok : e.ok w) (hs : e.size ≤ 100000) : Calls Tryd.prog 60 #[e.val] w fun ev w' => ∃ v, ev = .returned v ∧ w'.ownsRow w.heap.size 86 1 v (ptrs (e.chain e.size)).length (ptrs (e.chain e.size)) ∧ Below w.heap.size w w' := by
  have HS := Lib.hid hs
  have HOK := Lib.hid hok
  have HT := Lib.hid ht
  clear hs hok ht
  obtain ⟨tb, htb⟩ : ∃ tb, tb = w.heap.size := ⟨_, rfl⟩
  have HTB := Lib.hid htb
  rw [← htb]
  go_enter Tryd.func60, Tryd.ntmps60
  go_upto_block 0 with (fail)
  obtain ⟨W, hW⟩ : ∃ W, W = w.alloc (.cells #[.pointer none] 86) := ⟨_, rfl⟩
  rw [← hW, ← htb]
  have h0 : Hid (W.heap[tb]? = some (.cells #[.pointer none] 86 (0, 0))) := Lib.hid (by rw [hW, htb]; exact get_new w _)
  have hb0 : Hid (Below tb w W) := Lib.hid (by rw [hW, htb]; exact (Below.refl _ _).alloc (Nat.le_refl _) _)
  have hn0 : Hid ((Value.slice none 0 0).ownBlock ≠ some tb) := Lib.hid (by simp [Value.ownBlock])
  have ho0 : Hid (W.ownsRow tb 86 1 (.slice none 0 0) (ptrs []).length (ptrs [])) := Lib.hid (own_nil _ _ _ _)
  clear hW htb
  go_wp2
  go_loopg [0, 3] e.size (fun g s0 s3 wr => ∃ (cur : Err) (done : List (Nat × ByteArray)) (old : Value), s0 = cur.val ∧ Hid (cur.size ≤ g ∧ g + done.length ≤ e.size ∧ cur.ok w ∧ e.chain e.size = done ++ cur.chain g) ∧ Hid (wr.ownsRow tb 86 1 s3 (ptrs done).length (ptrs done)) ∧ Hid (s3.ownBlock ≠ some tb) ∧ Hid (wr.heap[tb]? = some (.cells #[old] 86 (0, 0))) ∧ Hid (Below tb w wr))
  case atStart => exact ⟨e, [], _, rfl, ⟨Nat.le_refl _, by simp, HOK.out, rfl⟩, ho0, hn0, h0, hb0⟩
  case round =>
    clear h0 hb0 hn0 ho0
    obtain ⟨cur, done, old, rfl, HC, HO, HN, HG, HB⟩ := hrel
    obtain ⟨wo, rfl⟩ : ∃ wo : World, wo = wr := ⟨_, rfl⟩
    have HA := Lib.hid (As_fault cur wo tb old (HT.out.below (HTB.out ▸ HB.out)) (Err.okBelow (HTB.out ▸ HB.out) HC.out.2.2.1) HG.out)
    obtain ⟨ty, v, hv⟩ := cur.isIface
    rw [hv] at HA ⊢
    clear hv
    rw [Err.first_firstF] at HA
    obtain ⟨k1, hk1⟩ : ∃ k1, gk = k1 + 1 := ⟨gk - 1, by have h1_ := HC.out.1; have : 0 < cur.size := by cases cur <;> simp [Err.size]
                                                        omega⟩
    have HK := Lib.hid hk1
    clear hk1
    cases he : cur.firstF with
    | none =>
      rw [he] at HA
      have HE : Hid (e.chain e.size = done) := Lib.hid (by have h_ := HC.out.2.2.2; rw [HK.out] at h_; simpa [Err.chain, he] using h_)
      clear he
      go_wp2_with (go_at_call 39; refine HA.out.mono ?_; rintro ev w2 ⟨rfl, hb2⟩; have HB2 := Lib.hid hb2; clear hb2)
      go_ret
      refine ⟨_, rfl, ?_, HB.out.trans (HB2.out.mono (by have := HB.out.size; have := lt_of_get HG.out; omega))⟩
      rw [HE.out]
      exact own_move HO.out (fun q hq => HB2.out.block q (own_lt HO.out q hq))
    | some z =>
      obtain ⟨g, op, a, e1⟩ := z
      rw [he] at HA
      have HF := Lib.hid (Err.firstF_ok HC.out.2.2.1 he)
      have HE : Hid (e.chain e.size = (done ++ [(g, op)]) ++ e1.chain k1) := Lib.hid (by have h_ := HC.out.2.2.2; rw [HK.out] at h_; simpa [Err.chain, he] using h_)
      clear he
      go_upto_region 4 with (go_at_call 39; refine HA.out.mono ?_; rintro ev w2 ⟨rfl, w1, hb1, rfl⟩; have H1 := Lib.hid hb1; clear hb1)
      have hle : Hid (tb < wo.heap.size) := Lib.hid (lt_of_get HG.out)
      obtain ⟨W2, hW2⟩ : ∃ W2, W2 = w1.setCell ⟨tb, 0, none⟩ (.pointer (some ⟨g, 0, none⟩)) := ⟨_, rfl⟩
      rw [← hW2]
      have hg1 : W2.heap[tb]? = some (.cells #[.pointer (some ⟨g, 0, none⟩)] 86 (0, 0)) := by rw [hW2]; exact set_get ((H1.out.block _ (lt_of_get HG.out)).trans HG.out)
      have hB2 : Below tb w W2 := by rw [hW2]; exact (HB.out.trans (H1.out.mono (Nat.le_of_lt hle.out))).setCell (Nat.le_refl _) _
      have hO2 : W2.ownsRow tb 86 1 u3 (ptrs done).length (ptrs done) := own_move HO.out (fun q hq => by
        rw [hW2]
        exact (set_far (fun h_ => HN.out (by rw [← h_]; exact hq))).trans (H1.out.block q (own_lt HO.out q hq)))
      have hsz : wo.heap.size ≤ W2.heap.size := by rw [hW2]; simpa using H1.out.size
      have HG1 := Lib.hid hg1
      have HB2 := Lib.hid hB2
      have HO2 := Lib.hid hO2
      have HSZ := Lib.hid hsz
      have c1 : W2.cell? ⟨tb, 0, none⟩ = some (.pointer (some ⟨g, 0, none⟩)) := (cell_of hg1 0).trans rfl
      clear hW2 hg1 hB2 hO2 hsz H1 HO HG HB HA
      obtain ⟨ty1, v1, hv1⟩ := e1.isIface
      have HV1 := Lib.hid hv1
      have HFB : Hid (w.heap[g]? = some (.cells #[.string op, .int .i64 a, .iface ty1 v1] 89 (0, 0))) := Lib.hid (by rw [← hv1]; exact HF.out.1.1)
      clear hv1
      obtain ⟨uo, huo⟩ : ∃ uo, uo = u3 := ⟨_, rfl⟩
      rw [← huo] at HO2 HN ⊢
      clear huo
      have HOA : Hid (∀ o, (W2.alloc o).ownsRow tb 86 1 uo (ptrs done).length (ptrs done)) := Lib.hid (fun o => own_move HO2.out (fun q hq => Below.heap_alloc _ _ q (own_lt HO2.out q hq)))
      have HGA : Hid (∀ o, (W2.alloc o).heap[W2.heap.size]? = some o) := Lib.hid (get_new W2)
      go_wp2_with (at_builtin; (refine wpList_app117 rfl (.tmp 8) (.tmp 10) rfl rfl (by rfl) (by rfl) (HOA.out _) (HGA.out _) rfl (by have := HSZ.out; have := hle.out; simp; omega) (by have := HC.out.2.1; have := HS.out; simp [ptrs]; omega) ?_); intro v2 w3 hown hgr hat; have HOW := Lib.hid hown; have HGR := Lib.hid hgr; have HAT := Lib.hid hat; have HB3 := Lib.hid (below_app HB2.out HO2.out HGR.out (by have := HSZ.out; have := hle.out; omega)); have HG3 := Lib.hid (app_keep HGR.out HG1.out HN.out); have c3 := (cell_of HG3.out 0).trans rfl; have q2 : w3.cell? ⟨g, 2, none⟩ = some (.iface ty1 v1) := (cell_of ((HB3.out.block _ (by have := lt_of_get HFB.out; have := HTB.out; omega)).trans HFB.out) 2).trans rfl; clear hown hgr hat)
      go_roundg k1
      case rel => exact ⟨e1, done ++ [(g, op)], _, HV1.out.symm, ⟨by have h1_ := HC.out.1; have h2_ := HK.out; have h3_ := HF.out.2; omega, by have h1_ := HC.out.2.1; have h2_ := HK.out; simp; omega, HF.out.1.2, HE.out⟩, Lib.hid (by have h_ := HOW.out; simpa [ptrs] using h_), fun h_ => HAT.out.elim (fun h2_ => HN.out (h2_ ▸ h_)) (fun h2_ => by rw [h2_] at h_; have h3_ := Option.some.inj h_; have := HSZ.out; have := hle.out; simp at h3_; omega), HG3.out, HB3.out⟩
      case measure => have := HK.out; omega
theorem faults_nil (w : World) : Calls Tryd.prog 60 #[.nilIface] w fun ev w' => ev = .returned (.slice none 0 0) ∧ Below w.heap.size w w' := by
  go_enter Tryd.func60, Tryd.ntmps60
  go_wp2
  refine wp_loop_rounds 1 ?_
  rw [rounds_succ]
  go_wp2_with (go_at_call 39; refine (As_nil_fault _ _).mono ?_; rintro ev w2 ⟨rfl, rfl⟩)
  go_ret
  exact ⟨rfl, (Below.refl _ _).alloc (Nat.le_refl _) _⟩
theorem own_at {W : World} {base n : Nat} {et : TypeId} {v : Value} {xs : List Value} (h : W.ownsRow base et 1 v n xs) : ∃ A0 c, v = .slice A0 n c ∧ xs.length = n ∧ n ≤ c ∧ ∀ i x, xs[i]? = some x → ∃ ad, A0 = some ad ∧ W.cell? (ad.add i) = some x := by
  have hl := h.1
  rw [Nat.mul_one] at hl
  rcases h.2 with ⟨rfl, rfl⟩ | ⟨g, cap, cur, rfl, h1, h2, h3, h4, h5, h6⟩
  · exact ⟨none, 0, rfl, hl, Nat.le_refl _, fun i x hx => by rw [List.length_eq_zero_iff.1 hl] at hx; cases hx⟩
  · refine ⟨some ⟨g, 0, none⟩, cap, rfl, hl, h3, fun i x hx => ⟨_, rfl, ?_⟩⟩
    have hi := (List.getElem?_eq_some_iff.1 hx).1
    rw [← h6, List.getElem?_take] at hx
    rw [if_pos (by omega)] at hx
    have : W.cell? ⟨g, i, none⟩ = cur[i]? := cell_of h2 i
    rw [add_plain]
    exact this.trans (by simpa using hx)
set_option maxHeartbeats 4000000 in
set_option maxRecDepth 100000 in
theorem trace_any (e : Err) (w : World) (ht : Typ w) (hok : e.ok w) (hs : e.size ≤ 100000) : Calls Tryd.prog 35 #[e.val] w fun ev w' => ∃ v, ev = .returned v ∧ w'.ownsRow w.heap.size 9 1 v (texts (e.chain e.size)).length (texts (e.chain e.size)) ∧ Below w.heap.size w w' := by
  have HFA := Lib.hid (faults_any e w ht hok hs)
  have HCO := Lib.hid (chain_ok e.size hok)
  have HCL := Lib.hid (chain_len e.size e)
  have HS := Lib.hid hs
  obtain ⟨ty, v0, hv⟩ := e.isIface
  rw [hv] at HFA ⊢
  clear hv hs ht hok
  generalize e.chain e.size = ch at HFA HCO HCL ⊢
  obtain ⟨tb, htb⟩ : ∃ tb, tb = w.heap.size := ⟨_, rfl⟩
  have HTB := Lib.hid htb
  rw [← htb] at HFA ⊢
  clear htb
  go_enter Tryd.func35, Tryd.ntmps35
  go_upto_block 0 with (go_at_call 60; refine HFA.out.mono ?_; rintro ev w1 ⟨vf, rfl, hof, hb1⟩; have HOF := Lib.hid hof; have HB1 := Lib.hid hb1; clear hof hb1; obtain ⟨AF, cf, rfl, hnf, hcf, hat⟩ := own_at HOF.out; have HAT := Lib.hid hat; clear hat)
  have hlc : Hid ((ptrs ch).length = ch.length) := Lib.hid (by simp [ptrs])
  generalize (ptrs ch).length = m at HOF hnf hcf hlc ⊢
  clear hnf
  have hm5 : m ≤ 100000 := by have := hlc.out; have := HCL.out; have := HS.out; omega
  have HTS : Hid (tb ≤ w1.heap.size) := Lib.hid (by have := HTB.out; have := HB1.out.size; omega)
  have hlt : Hid (m ≤ 100000) := Lib.hid (by have := hlc.out; have := HCL.out; have := HS.out; omega)
  have ho0 : Hid (w1.ownsRow tb 9 1 (.slice none 0 0) (texts []).length (texts [])) := Lib.hid (own_nil _ _ _ _)
  have hb0 : Hid (Below w1.heap.size w1 w1) := Lib.hid (Below.refl _ _)
  have hn0 : Hid (∀ q, (Value.slice none 0 0).ownBlock = some q → w1.heap.size ≤ q) := Lib.hid (by simp [Value.ownBlock])
  go_wp2
  go_loopw [3, 9] (fun s3 s9 wr => ∃ (k : Nat), Hid (k ≤ m) ∧ s9 = .int .i64 k ∧ Hid (wr.ownsRow tb 9 1 s3 (texts (ch.take k)).length (texts (ch.take k))) ∧ Hid (∀ q, s3.ownBlock = some q → w1.heap.size ≤ q) ∧ Hid (Below w1.heap.size w1 wr)) (fun _ s9 _ => m - (intOf s9).toNat)
  case atStart => exact ⟨0, Nat.zero_le _, rfl, ho0, hn0, hb0⟩
  case round =>
    clear ho0 hb0 hn0
    obtain ⟨k, HK, rfl, HO, HN, HB⟩ := hrel
    obtain ⟨wo, rfl⟩ : ∃ wo : World, wo = wr := ⟨_, rfl⟩
    by_cases hkm : k < m
    · have hkm' : k < ch.length := by have := hlc.out; omega
      obtain ⟨z, hz⟩ : ∃ z, ch[k]? = some z := ⟨_, List.getElem?_eq_getElem hkm'⟩
      obtain ⟨af, rfl, hc1⟩ := HAT.out k (.pointer (some ⟨z.1, 0, none⟩)) (by simp [ptrs, hz])
      obtain ⟨a0, va, hf⟩ := HCO.out z (List.mem_of_getElem? hz)
      have HF := Lib.hid hf
      have c1 : wo.cell? (af.add k) = some (.pointer (some ⟨z.1, 0, none⟩)) := pw_cell_below HB.out hc1
      have HBW : Hid (Below tb w wo) := Lib.hid (HB1.out.trans (HB.out.mono HTS.out))
      have c2 : wo.cell? ⟨z.1, 0, none⟩ = some (.string z.2) := (cell_of ((HBW.out.block _ (by have := lt_of_get HF.out; have := HTB.out; omega)).trans HF.out) 0).trans rfl
      have HTK : Hid (ch.take (k + 1) = ch.take k ++ [z]) := Lib.hid (by rw [List.take_add_one, hz]; rfl)
      clear hf hc1 hz hkm'
      obtain ⟨uo, huo⟩ : ∃ uo, uo = u3 := ⟨_, rfl⟩
      rw [← huo] at HO HN ⊢
      clear huo
      have HOA : Hid (∀ o, (wo.alloc o).ownsRow tb 9 1 uo (texts (ch.take k)).length (texts (ch.take k))) := Lib.hid (fun o => own_move HO.out (fun q hq => Below.heap_alloc _ _ q (own_lt HO.out q hq)))
      have HGA : Hid (∀ o, (wo.alloc o).heap[wo.heap.size]? = some o) := Lib.hid (get_new wo)
      go_wp2_with (at_builtin; (refine wpList_app76 rfl (.tmp 13) (.tmp 18) rfl rfl (by rfl) (by rfl) (HOA.out _) (HGA.out _) rfl (by have := HBW.out.size; have := HTB.out; simp; omega) (by have := hlt.out; have := HK.out; simp [texts]; omega) ?_); intro v2 w3 hown hgr hat; have HOW := Lib.hid hown; have HGR := Lib.hid hgr; have HAT2 := Lib.hid hat; clear hown hgr hat)
      go_roundw
      case rel => exact ⟨k + 1, Lib.hid (by omega), by go_num, Lib.hid (by rw [HTK.out]; have h_ := HOW.out; simpa [texts] using h_), fun q hq => HAT2.out.elim (fun h2_ => HN.out q (h2_ ▸ hq)) (fun h2_ => by rw [h2_] at hq; have h3_ := Option.some.inj hq; simp at h3_; have := HB.out.size; omega), below_grown_app HB.out HGR.out HN.out⟩
      case measure => simp [intOf]; omega
    · have hke : k = m := by have := HK.out; omega
      have HKE := Lib.hid hke
      clear hke
      go_wp2
      go_ret
      refine ⟨_, rfl, ?_, HB1.out.trans (HB.out.mono HTS.out)⟩
      have h_ := HO.out
      rw [List.take_of_length_le (by have := HKE.out; have := hlc.out; omega)] at h_
      exact h_
set_option maxHeartbeats 400000 in
theorem trace_nil (w : World) : Calls Tryd.prog 35 #[.nilIface] w fun ev w' => ev = .returned (.slice none 0 0) ∧ Below w.heap.size w w' := by
  go_enter Tryd.func35, Tryd.ntmps35
  go_wp2_with (go_at_call 60; refine (faults_nil _).mono ?_; rintro ev w1 ⟨rfl, hb⟩; have HB := Lib.hid hb; clear hb)
  refine wp_loop_rounds 1 ?_
  rw [rounds_succ]
  go_wp2
  go_ret
  exact ⟨rfl, HB.out⟩
end Go.Proofs.YtfkkefhijhjaaaaDoor.Er
