import Derived.Test.YtfkkefhijhjaaaaDoorGrB
import Derived.Test.YtfkkefhijhjaaaaDoorFm
import Derived.Outline
namespace Go.Proofs.YtfkkefhijhjaaaaDoor.Gr
open Go.RowKit Go.Proofs.YtfkkefhijhjaaaaDoorW.PrintWords Go.Proofs.YtfkkefhijhjaaaaDoorW.PrintLast Go.Proofs.YtfkkefhijhjaaaaDoorW.PrintMore
set_option linter.unusedVariables false
set_option linter.unusedSimpArgs false
def near (N : Int) (ls : List (Int × Int)) (b : Int) : List Int := Go.Lib.compact ((rawNear N ls b).mergeSort fun x y => decide (x ≤ y))
theorem near_is (N : Int) (ls : List (Int × Int)) (b : Int) : IsNear N ls b (near N ls b) := by
  have h := compact_sort_int (rawNear N ls b)
  exact ⟨h.1, fun x => (h.2 x).trans mem_rawNear⟩
/-- Near, its row under a name. -/
def NearOk (n : Int) (ls : List (Int × Int)) (x : Int) (w w' : World) (nb : List Int) (v : Value) (k : Nat) : Prop :=
  nb = near n ls x ∧ k = nb.length ∧ Kd.R (Kd.int .i64) 3 w' w.heap.size (fun _ => True) v nb ∧ Below w.heap.size w w'
theorem near_ex (N b : Int) (A : Option Addr) (c : Nat) (ls : List (Int × Int)) (w : World) (hr : Kd.C k24 w A ls.length ls) (hc : ls.length ≤ c) (hl : ls.length ≤ 1000000) :
    Calls Tryd.prog 27 #[.agg #[.int .i64 N, .slice A ls.length c], .int .i64 b] w fun e w' => ∃ (nb : List Int) (A2 : Option Addr) (k c2 : Nat), e = .returned (.slice A2 k c2) ∧ Aside0 (NearOk N ls b w w' nb (.slice A2 k c2) k) := by
  refine (near_calls N b A c ls w hr hc hl).mono ?_
  rintro e w' ⟨v, rfl, hO, hB⟩
  obtain ⟨A2, c2, rfl⟩ := Kd.R_slice hO
  exact ⟨_, A2, _, c2, rfl, ⟨rfl, rfl, hO, hB⟩⟩
noncomputable def S110 : Fm.Sp Tryd.prog Int := Fm.intSp Tryd.prog 110 3 3 Tryd.underlying3 Tryd.underlying110 (.int .i64 0) (fun w => by kernel_rfl)
abbrev vI (x : Int) : Value := .int .i64 x
def outV (out : Int → Option Nat) : Int → Option Value := fun x => (out x).map fun (d : Nat) => vI (d : Int)
theorem outV_upd (out : Int → Option Nat) (b : Int) (d : Nat) : Fm.upd (outV out) b (vI (d : Int)) = outV (upd out b d) := by
  funext y
  unfold outV upd
  by_cases h : y = b
  · subst h; rw [Fm.upd_same, if_pos rfl]; rfl
  · rw [Fm.upd_other _ _ h, if_neg h]
theorem R_one (w : World) (x : Int) (base : Nat) (hb : base ≤ w.heap.size) : Kd.R (Kd.int .i64) 3 (w.alloc (.cells #[vI x] 3)) base (fun _ => True) (.slice (some ⟨w.heap.size, 0, none⟩) 1 1) [x] :=
  R_of_own (xs := [x]) ⟨rfl, .inr ⟨w.heap.size, 1, #[vI x], rfl, hb, heap_alloc_new w _, Nat.le_refl _, by unfold maxLen; omega, rfl, rfl⟩⟩
theorem at_int {w : World} {A : Option Addr} {n : Nat} {xs : List Int} (h : Kd.C (Kd.int .i64) w A n xs) {i : Nat} {x : Int} (hx : xs[i]? = some x) :
    ∃ ad, A = some ad ∧ w.cell? (ad.add i) = some (vI x) := by
  obtain ⟨hi, hxe⟩ := List.getElem?_eq_some_iff.mp hx
  have hn := Kd.C_len h
  obtain ⟨ad, c, e, _, hK, hc⟩ := Kd.C_get h 0 (i : Int) (by omega) (by omega)
  have hK' : c = [vI (xs.getD (i : Int).toNat 0)] := hK
  subst hK'
  have h0 := hc 0 _ rfl
  have e2 : xs.getD (i : Int).toNat 0 = x := by rw [Int.toNat_natCast, List.getD_eq_getElem?_getD, hx]; rfl
  rw [e2] at h0
  have e3 : (i : Int).toNat * (Kd.int .i64).sz + 0 = i := by simp [show (Kd.int .i64).sz = 1 from rfl]
  rw [e3] at h0
  exact ⟨ad, e, h0⟩
/-- what holds at the head of reach's loop. -/
structure RI (n : Nat) (ls : List (Int × Int)) (a : Int) (base mb : Nat) (w0 wr : World) (out : Int → Option Nat) (ks row : List Int) (s6 : Value) : Prop where
  bfs : Bfs (Adj n ls) a n out ks row
  nd : row.Nodup
  map : Fm.M S110 wr mb ks.length (outV out)
  row : Kd.Q (Kd.int .i64) 3 wr base (fun _ => True) s6 row
  low : Below base w0 wr
  mbl : base ≤ mb
theorem RI.len {n ls a base mb w0 wr out ks row s6} (h : RI n ls a base mb w0 wr out ks row s6) : row.length ≤ n :=
  Nat.le_trans (len_le_sub row ks h.nd h.bfs.rowin) h.bfs.size
theorem RI.start {n : Nat} (ls : List (Int × Int)) {a : Int} {base mb : Nat} {w0 w1 : World} (s : Fm.M S110 w1 mb 1 (Fm.upd (fun _ => none) a (vI 0))) (ha : 0 ≤ a ∧ a < (n : Int)) (hB : Below base w0 w1) (hmb : base ≤ mb) (hs : base ≤ w1.heap.size) :
    RI n ls a base mb w0 (w1.alloc (.cells #[vI a] 3)) (upd (fun _ => none) a 0) [a] [a] (.slice (some ⟨w1.heap.size, 0, none⟩) 1 1) where
  bfs := Bfs.start ha
  nd := by simp
  map := by
    have e : Fm.upd (fun _ => none) a (vI 0) = outV (upd (fun _ => none) a 0) := outV_upd (fun _ => none) a 0
    rw [← e]
    exact s.below (below_alloc (Below.refl _ _) _)
  row := Kd.Q_of_R (R_one w1 a base hs)
  low := below_then hB hs (below_alloc (Below.refl _ _) _)
  mbl := hmb
/-- the wf of a broker's number. -/
theorem wf_rng {n : Nat} {b : Int} (hn : n ≤ 1000000) (h : 0 ≤ b ∧ b < (n : Int)) : S110.ok b := Fm.wf_int (by omega) (by omega)
structure RJ (n : Nat) (ls : List (Int × Int)) (a : Int) (base mb : Nat) (w0 wr : World) (x : Int) (nb : List Int) (vnb : Value) (G : Nat) (i : Nat) (out : Int → Option Nat) (ks rest : List Int) (s6 : Value) : Prop where
  ri : RI n ls a base mb w0 wr out ks (x :: rest) s6
  il : i ≤ nb.length
  seen : ∀ y ∈ nb.take i, y ∈ ks
  nb_ : Kd.R (Kd.int .i64) 3 wr 0 (fun _ => True) vnb nb
  ap : ∀ k, s6.ownBlock = some k → vnb.ownBlock ≠ some k
  meas : (n - ks.length) + (rest.length + 1) ≤ G
section
variable {n : Nat} {ls : List (Int × Int)} {a : Int} {base mb : Nat} {w0 wr w1 w2 : World} {x b : Int} {nb : List Int} {vnb : Value} {G i : Nat} {out : Int → Option Nat} {ks rest : List Int} {s6 v6 : Value}
theorem take_one {α : Type} {l : List α} {i : Nat} {b : α} (h : l[i]? = some b) : l.take (i + 1) = l.take i ++ [b] := by rw [List.take_add_one, h]; rfl
theorem RJ.skip (h : RJ n ls a base mb w0 wr x nb vnb G i out ks rest s6) (hb : nb[i]? = some b) {d : Nat} (hd : out b = some d) : RJ n ls a base mb w0 wr x nb vnb G (i + 1) out ks rest s6 :=
  { h with
    il := (List.getElem?_eq_some_iff.mp hb).1
    seen := fun y hy => by
      rw [take_one hb] at hy
      rcases List.mem_append.mp hy with hy | hy
      · exact h.seen y hy
      · rw [List.mem_singleton.mp hy]; exact (h.ri.bfs.dom b).mpr (by rw [hd]; rfl) }
theorem RJ.head (h : RJ n ls a base mb w0 wr x nb vnb G i out ks rest s6) : ∃ d, out x = some d :=
  Option.isSome_iff_exists.mp ((h.ri.bfs.dom x).mp (h.ri.bfs.rowin x (List.mem_cons_self ..)))
theorem RI.dist_lt (h : RI n ls a base mb w0 wr out ks rest s6) (ha : 0 ≤ a ∧ a < (n : Int)) {d : Nat} (hd : out x = some d) : d < n :=
  (h.bfs.dist x d hd).lt (fun u v hA => ⟨hA.rng.2.2.1, hA.rng.2.2.2.1⟩) ha
theorem RI.rng (h : RI n ls a base mb w0 wr out ks rest s6) (hx : x ∈ rest) : 0 ≤ x ∧ x < (n : Int) := h.bfs.rng x (h.bfs.rowin x hx)
/-- behind the map's store: the row of those that wait stands as it was. -/
theorem RJ.stored_row (h : RJ n ls a base mb w0 wr x nb vnb G i out ks rest s6) (ht : wr.mapTurned w1 mb) : Kd.Q (Kd.int .i64) 3 w1 base (fun _ => True) s6 (x :: rest) :=
  Kd.Q_mono (Kd.Q_move (Kd.Q_bound h.ri.row) (fun k hk => by
    obtain ⟨_, _, _, q, _, cells, hc⟩ := hk
    exact Fm.turned_block ht (fun e => h.ri.map.ne_cells hc e.symm))) (fun _ _ => trivial)
theorem RJ.stored_nb (h : RJ n ls a base mb w0 wr x nb vnb G i out ks rest s6) (ht : wr.mapTurned w1 mb) : Kd.R (Kd.int .i64) 3 w1 0 (fun _ => True) vnb nb :=
  Kd.R_mono (Kd.R_move (Kd.R_bound h.nb_) (fun k hk => by
    obtain ⟨_, _, _, q, _, cells, hc⟩ := hk
    exact Fm.turned_block ht (fun e => h.ri.map.ne_cells hc e.symm))) (fun _ _ => trivial)
theorem RJ.put (h : RJ n ls a base mb w0 wr x nb vnb G i out ks rest s6) (hb : nb[i]? = some b) (hA : Adj n ls x b) {d : Nat} (hd : out x = some d) (hn : out b = none)
    (hM : Fm.M S110 w1 mb (ks.length + 1) (Fm.upd (outV out) b (vI ((d + 1 : Nat) : Int)))) (ht : wr.mapTurned w1 mb) (hbs : base ≤ wr.heap.size)
    (hQ : Kd.Q (Kd.int .i64) 3 w2 base (fun _ => True) v6 (x :: rest ++ [b])) (hB : Below base w1 w2) (hg : w1.grownBy w2 s6.ownBlock) (hat : v6.ownBlock = s6.ownBlock ∨ ∃ k, v6.ownBlock = some k ∧ w1.heap.size ≤ k) :
    RJ n ls a base mb w0 w2 x nb vnb G (i + 1) (upd out b (d + 1)) (ks ++ [b]) (rest ++ [b]) v6 := by
  have hr := hA.rng
  have hbk : b ∉ ks := fun hm => by have := (h.ri.bfs.dom b).mp hm; rw [hn] at this; cases this
  have hne : ∀ y, y ∈ x :: rest → y ≠ b := fun y hy e => hbk (e ▸ h.ri.bfs.rowin y hy)
  have hqm : s6.ownBlock ≠ some mb := fun e => by
    obtain ⟨cells, hc⟩ := Kd.Q_typed h.ri.row mb e
    exact h.ri.map.ne_cells hc rfl
  have bf := h.ri.bfs.add hd hA hn ⟨hr.2.2.1, hr.2.2.2.1⟩
  refine ⟨⟨bf, ?_, ?_, hQ, ?_, h.ri.mbl⟩, (List.getElem?_eq_some_iff.mp hb).1, ?_, ?_, ?_, ?_⟩
  · show (x :: rest ++ [b]).Nodup
    rw [List.nodup_append]
    refine ⟨h.ri.nd, by simp, fun y hy z hz => ?_⟩
    rw [List.mem_singleton.mp hz]
    exact hne y hy
  · rw [List.length_append, List.length_singleton, ← outV_upd]
    exact hM.move (hg.block mb hM.lt (fun e => hqm e.symm))
  · exact (Fm.turned_below h.ri.low ht h.ri.mbl hbs).trans hB
  · intro y hy
    rw [take_one hb] at hy
    rcases List.mem_append.mp hy with hy | hy
    · exact List.mem_append_left _ (h.seen y hy)
    · exact List.mem_append_right _ hy
  · exact Kd.R_grown2 (h.stored_nb ht) rfl hg (fun k hk e => h.ap k hk e.symm)
  · intro k hk
    rcases hat with hat | ⟨k2, hk2, hle⟩
    · exact h.ap k (hat ▸ hk)
    · intro e
      have := Kd.R_lt (h.stored_nb ht) k e
      rw [hk2] at hk
      cases hk
      omega
  · have h1 := h.meas
    have h2 := bf.size
    simp only [List.length_append, List.length_singleton] at h2 ⊢
    omega
/-- the round is over: all that are near are met. -/
theorem RJ.over (h : RJ n ls a base mb w0 wr x nb vnb G nb.length out ks rest s6) (hnb : IsNear n ls x nb) : Bfs (Adj n ls) a n out ks rest :=
  h.ri.bfs.pop fun u hu => h.seen u (by rw [List.take_length]; exact (hnb.2 u).mpr hu)
end
def ReachPost (n : Nat) (ls : List (Int × Int)) (a : Int) (w : World) (e : Ending) (w' : World) : Prop :=
  ∃ b out m, e = .returned (.map (some b)) ∧ Fm.M S110 w' b m (outV out) ∧ (∀ v d, out v = some d ↔ Dist (Adj n ls) a v d) ∧ (m = n ↔ ∀ v : Int, 0 ≤ v → v < n → ∃ d, Dist (Adj n ls) a v d) ∧ w.heap.size ≤ b ∧ Below w.heap.size w w'
set_option maxHeartbeats 8000000 in
set_option maxRecDepth 100000 in
theorem reach_calls (n : Nat) (a : Int) (A : Option Addr) (c : Nat) (ls : List (Int × Int)) (w : World) (hr : Kd.C k24 w A ls.length ls) (hc : ls.length ≤ c) (hl : ls.length ≤ 1000000) (ha : 0 ≤ a ∧ a < (n : Int)) (hn : n ≤ 1000000) :
    Calls Tryd.prog 55 #[.agg #[.int .i64 n, .slice A ls.length c], .int .i64 a] w fun e w' => ReachPost n ls a w e w' := by
  have F0 := Aside0.mk hr
  clear hr
  have hwa : S110.ok a := Fm.wf_int (by omega) (by omega)
  have HA := Aside0.mk ha
  clear ha
  have hmm := @run_makeMap Tryd.prog
  obtain ⟨w1, hput, hM1, ht1⟩ := (Fm.M.new (S := S110) (w.alloc (Obj.cells #[.int .i64 n, .slice A ls.length c] 27))).store hwa (vI 0) (by unfold maxLen; omega)
  have hput1 : Sem.run Tryd.prog (Instr.mapUpdate 110 (Value.map (some (w.heap.size + 1))) (Value.int IntKind.i64 a) (Value.int IntKind.i64 0)) ((w.alloc (Obj.cells #[.int .i64 n, .slice A ls.length c] 27)).alloc (Obj.map #[] 0)) = .ok () w1 := by
    have := hput
    rw [World.size_alloc] at this
    exact this
  clear hput
  have HM1 := Aside0.mk hM1
  have HT1 := Aside0.mk ht1
  clear hM1 ht1 hwa
  go_enter Tryd.func55, Tryd.ntmps55
  go_wp2_with fail
  go_loopg [6] (n + 1) (fun k s6 wr => ∃ (out : Int → Option Nat) (ks row : List Int), Aside0 (RI n ls a (w.heap.size + 1) (w.heap.size + 1) (box27 w n A ls.length c) wr out ks row s6) ∧ Aside0 ((n - ks.length) + row.length ≤ k))
  case atStart =>
    have hw1 : w.heap.size + 1 ≤ w1.heap.size := by rw [Fm.turned_size HT1.out]; simp
    have h0 := RI.start ls (base := w.heap.size + 1) (by simpa using HM1.out) HA.out (Fm.turned_below ((Below.refl (w.heap.size + 1) (box27 w n A ls.length c)).alloc (by simp) _) HT1.out (by simp) (by simp)) (Nat.le_refl _) hw1
    exact ⟨_, [a], [a], ⟨h0⟩, ⟨by simp only [List.length_singleton]; omega⟩⟩
  case round =>
    obtain ⟨out, ks, row, HR, HK⟩ := hrel
    clear HM1 HT1 hput1 hmm
    rcases row with _ | ⟨x, rest⟩
    · obtain ⟨A6, c6, rfl, _⟩ := Kd.Q_slice HR.out.row
      go_wp2_with fail
      go_ret
      have h := HR.out
      exact ⟨_, out, ks.length, rfl, h.map, fun v d => h.bfs.fin v d, h.bfs.full, by omega, (below_alloc (Below.refl _ _) _).trans (h.low.mono (by omega))⟩
    · obtain ⟨g, o, cap, hs6, hgb, hglt, -⟩ := Kd.Q_form HR.out.row (by simp)
      subst hs6
      obtain ⟨hx0, -⟩ := Kd.Q_cell (0 : Int) HR.out.row 0 (by omega) (by simp)
      have hx1 : wr.cell? ⟨g, o, none⟩ = some (.int .i64 x) := hx0
      clear hx0
      obtain ⟨m, hm⟩ : ∃ m, m = (x :: rest).length := ⟨_, rfl⟩
      have hm0 : 0 < m := by rw [hm]; simp
      rw [← hm]
      have HM := Aside0.mk hm
      clear hm
      go_upto_region 5 with (fail)
      have BK : (box27 w n A ls.length c).heap[w.heap.size]? = some (.cells #[.int .i64 n, .slice A ls.length c] 27 (0, 0)) := heap_alloc_new w _
      have hg0 : wr.cell? ⟨w.heap.size, 0, none⟩ = some (.int .i64 n) := (HR.out.low.cell (by simp)).trans ((blk_cell BK 0).trans rfl)
      have hg1 : wr.cell? ⟨w.heap.size, 1, none⟩ = some (.slice A ls.length c) := (HR.out.low.cell (by simp)).trans ((blk_cell BK 1).trans rfl)
      clear BK
      have FR : Aside0 (Kd.C k24 wr A ls.length ls) := ⟨Kd.C_below F0.out ((below_alloc (Below.refl _ _) _).trans (HR.out.low.mono (by omega)))⟩
      go_cut [25, 26, 27] (fun s25 s26 s27 wr2 => ∃ (nb : List Int) (A2 : Option Addr) (k2 c2 : Nat), s25 = .slice A2 k2 c2 ∧ s26 = .int .i64 k2 ∧ s27 = .int .i64 0 ∧ Aside0 (NearOk n ls x wr.drew wr2 nb (.slice A2 k2 c2) k2))
      case first =>
        go_region_with ((go_at_call 27; refine (near_ex n x A c ls _ (Kd.C_below FR.out (by first | exact Below.refl _ _ | exact below_drew (Below.refl _ _))) hc hl).mono ?_; rintro e w2 ⟨nb, A2, k2, c2, rfl, HN⟩))
        all_goals
          go_wp2_with fail
          go_meet
          exact ⟨nb, A2, k2, c2, rfl, rfl, rfl, HN⟩
      case rest =>
        clear hg0 hg1 hx1
        obtain ⟨nb, A2, k2, c2, rfl, rfl, rfl, HN⟩ := hcut
        go_wp2_with fail
        have hbs : w.heap.size + 1 ≤ wr.heap.size := by have := HR.out.low.size; simpa using this
        have h0 : RJ n ls a (w.heap.size + 1) (w.heap.size + 1) (box27 w n A ls.length c) wc x nb (.slice A2 k2 c2) gk 0 out ks rest (.slice (some ⟨g, o, none⟩) m cap) := by
          obtain ⟨hnb, hk2, hR, hB⟩ := HN.out
          have hB' : Below wr.heap.size wr wc := (below_drew (Below.refl _ _)).trans hB
          have h := HR.out
          rw [← HM.out] at h
          refine ⟨⟨h.bfs, h.nd, h.map.below hB', Kd.Q_below h.row hB', h.low.trans (hB'.mono hbs), h.mbl⟩, Nat.zero_le _, by simp, R_low (Nat.zero_le _) hR, ?_, by simpa using HK.out⟩
          intro k hk e
          have h1 := Kd.Q_lt h.row k hk
          have h2 : wr.heap.size ≤ k := Kd.R_base hR k e
          omega
        have H0 := Aside0.mk h0
        have HNB : Aside0 (IsNear n ls x nb ∧ k2 = nb.length) := ⟨by rw [HN.out.1]; exact near_is _ _ _, HN.out.2.1⟩
        clear h0 HN HR HM HK FR hgb hglt
        obtain ⟨wo, rfl⟩ : ∃ wo : World, wo = wr := ⟨_, rfl⟩
        obtain ⟨go, rfl⟩ : ∃ go : Nat, go = gk := ⟨_, rfl⟩
        go_loopg [6, 27] k2 (fun q s6 s27 wi => ∃ (i : Nat) (out : Int → Option Nat) (ks rest : List Int), s27 = .int .i64 (i : Int) ∧ Aside0 (q + i = k2) ∧ Aside0 (RJ n ls a (w.heap.size + 1) (w.heap.size + 1) (box27 w n A ls.length c) wi x nb (.slice A2 k2 c2) go i out ks rest s6))
        case atStart => exact ⟨0, out, ks, rest, rfl, ⟨by omega⟩, H0⟩
        case round =>
          clear H0
          clear out ks rest g o cap
          obtain ⟨i, out, ks, rest, rfl, HQ, HJ⟩ := hrel
          obtain ⟨d, hd⟩ := HJ.out.head
          obtain ⟨g, o, cap, hs6, hgb, hglt, -⟩ := Kd.Q_form HJ.out.ri.row (by simp)
          subst hs6
          by_cases hlt : i < k2
          · have hil : i < nb.length := by rw [← HNB.out.2]; exact hlt
            obtain ⟨b, hb⟩ : ∃ b, nb[i]? = some b := ⟨_, List.getElem?_eq_getElem hil⟩
            have hA : Adj n ls x b := (HNB.out.1.2 b).mp (List.mem_of_getElem? hb)
            have hwb : S110.ok b := wf_rng hn ⟨hA.rng.2.2.1, hA.rng.2.2.2.1⟩
            obtain ⟨-, -, hC⟩ := Kd.R_reads' HJ.out.nb_
            obtain ⟨ad, hae, hcb⟩ := at_int hC hb
            clear hC
            cases hae
            have hi6 : i < 1000000 := by have := HNB.out.1.len; omega
            have hi7 : (i : Int) + 1 ≤ 1000000 := by omega
            have hks : ks.length ≤ n := HJ.out.ri.bfs.size
            have hdn : d < n := HJ.out.ri.dist_lt HA.out hd
            cases hob : out b with
            | some e =>
              have hlk : Sem.run Tryd.prog (Instr.lookup 110 (Value.map (some (w.heap.size + 1))) (Value.int IntKind.i64 b) true) wr = .ok (.tuple #[.int .i64 (e : Int), .bool true]) wr := by
                have h := HJ.out.ri.map.look_ok hwb
                simp only [outV, hob, Option.map_some, Option.getD_some, Option.isSome_some] at h
                exact h
              have HE := Aside0.mk (HJ.out.skip hb hob)
              clear hd hob hb hA hwb HJ
              go_wp2_with fail
              go_roundg (gk - 1)
              case measure => have := HQ.out; omega
              case rel => exact ⟨i + 1, out, ks, rest, by go_num, ⟨by have := HQ.out; omega⟩, HE⟩
            | none =>
              have hlk : Sem.run Tryd.prog (Instr.lookup 110 (Value.map (some (w.heap.size + 1))) (Value.int IntKind.i64 b) true) wr = .ok (.tuple #[.int .i64 0, .bool false]) wr := by
                have h := HJ.out.ri.map.look_ok hwb
                simp only [outV, hob, Option.map_none, Option.getD_none, Option.isSome_none] at h
                exact h
              have hwx : S110.ok x := wf_rng hn ⟨hA.rng.1, hA.rng.2.1⟩
              have hlk2 : Sem.run Tryd.prog (Instr.lookup 110 (Value.map (some (w.heap.size + 1))) (Value.int IntKind.i64 x) false) wr = .ok (.int .i64 (d : Int)) wr := by
                have h := HJ.out.ri.map.look hwx
                simp only [outV, hd, Option.map_some, Option.getD_some] at h
                exact h
              obtain ⟨hx0, -⟩ := Kd.Q_cell (0 : Int) HJ.out.ri.row 0 (by omega) (by simp)
              have hx1 : wr.cell? ⟨g, o, none⟩ = some (.int .i64 x) := hx0
              clear hx0
              obtain ⟨w2, hput, hM2, ht2⟩ := HJ.out.ri.map.store hwb (vI ((d + 1 : Nat) : Int)) (by unfold maxLen; omega)
              have hput2 : Sem.run Tryd.prog (Instr.mapUpdate 110 (Value.map (some (w.heap.size + 1))) (Value.int IntKind.i64 b) (Value.int IntKind.i64 ((d : Int) + 1))) wr = .ok () w2 := hput
              have HM2 := Aside0.mk hM2
              have HT2 := Aside0.mk ht2
              have hQ2 := HJ.out.stored_row ht2
              obtain ⟨m, hm⟩ : ∃ m, m = (x :: rest).length := ⟨_, rfl⟩
              have hm0 : 0 < m := by rw [hm]; simp
              have hd6 : (d : Int) + 1 ≤ 1000000 := by omega
              rw [← hm] at hQ2 ⊢
              have HQ2 := Aside0.mk hQ2
              have HM := Aside0.mk hm
              have HA2 := Aside0.mk (And.intro hb (And.intro hA (And.intro hd hob)))
              have HL2 : Aside0 (((x :: rest).length + 1) * 8 ≤ 140737488355328) := ⟨by have := HJ.out.ri.len; omega⟩
              have HS2 : Aside0 (w.heap.size + 1 ≤ w2.heap.size) := ⟨by rw [Fm.turned_size ht2]; omega⟩
              clear hput hM2 ht2 hQ2 hm hb hA hd hob hwb hwx
              go_wp2_with (refine Kd.Q_append (Kd.int .i64) (w0 := w2) (w.heap.size + 1) rfl (.tmp 47) (.tmp 49) 44 3 (.int .i64 0) 8 rfl Tryd.underlying44 info3 rfl (by decide) (by omega) (.slice (some ⟨g, o, none⟩) m cap) (x :: rest) b [.int .i64 b] (fun _ => True) (fun _ => False) rfl rfl ?aP (fun _ hk => hk.elim) ?aF ?aO ?aB ?aS ?aL ?_; (case aP => exact rfl); (case aF => exact (fun _ _ => trivial)); (case aO => exact HQ2.out); (case aB => exact Below.refl _ _); (case aS => exact HS2.out); (case aL => exact HL2.out); intro v3 w3 hO3 hB3 hg3 hat3; have HO3 := Aside0.mk hO3; have HB3 := Aside0.mk hB3; have HG3 := Aside0.mk hg3; have HT3 := Aside0.mk hat3; clear hO3 hB3 hg3 hat3)
              go_roundg (gk - 1)
              case measure => have := HQ.out; omega
              case rel =>
                obtain ⟨hb, hA, hd, hob⟩ := HA2.out
                refine ⟨i + 1, _, _, _, by go_num, ⟨by have := HQ.out; omega⟩, ⟨HJ.out.put hb hA hd hob ?_ HT2.out (by omega) HO3.out HB3.out ?_ ?_⟩⟩
                · have h := HM2.out
                  rw [show (outV out b).isSome = false by simp [outV, hob]] at h
                  exact h
                · rw [← HM.out]; exact HG3.out
                · rw [← HM.out]; exact HT3.out
          · have hi : i = k2 := by have := HQ.out; omega
            subst hi
            have hq := Kd.Q_drop (k := 1) HJ.out.ri.row (by simp)
            have HOV := HJ.out
            rw [HNB.out.2] at HOV
            have hov := HOV.over HNB.out.1
            by_cases hcap : cap = 1
            all_goals
              have HQD := Aside0.mk hq
              have HCAP := Aside0.mk hcap
              have HBF := Aside0.mk hov
              have HP : Aside0 (cap = 1 ∨ cap ≠ 1) := ⟨by omega⟩
              clear hq hov HOV
              go_wp2_with fail
              go_roundg (go - 1)
              case measure => have := HJ.out.meas; omega
              case rel =>
                have h := HQD.out
                simp only [hcap, if_true, if_false, List.length_cons, Nat.add_sub_cancel, List.drop_succ_cons, List.drop_zero, Option.map_some] at h
                exact ⟨out, ks, rest, ⟨⟨HBF.out, (List.nodup_cons.mp HJ.out.ri.nd).2, HJ.out.ri.map, h, HJ.out.ri.low, HJ.out.ri.mbl⟩⟩, ⟨by have := HJ.out.meas; omega⟩⟩
end Go.Proofs.YtfkkefhijhjaaaaDoor.Gr
