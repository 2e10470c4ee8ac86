import Derived.Test.YtfkkefhijhjaaaaDoorGrJ
namespace Go.Proofs.YtfkkefhijhjaaaaDoor.Gr
open Go.RowKit Go.Proofs.YtfkkefhijhjaaaaDoorW.PrintWords Go.Proofs.YtfkkefhijhjaaaaDoorW.PrintLast Go.Proofs.YtfkkefhijhjaaaaDoorW.PrintMore
open Go.Lib Go.Sort
set_option linter.unusedVariables false
set_option linter.unusedSimpArgs false
theorem rawWays_nodup {N : Int} {ls : List (Int × Int)} (ho : ∀ m ∈ ls, okL N m = true) (h1 : Once ls) : (rawWays N ls).Nodup := by
  induction ls with
  | nil => simp [rawWays]
  | cons m t ih =>
    have hm := ho m (List.mem_cons_self ..)
    have hc := List.pairwise_cons.mp h1
    have hn := ih (fun x hx => ho x (List.mem_cons_of_mem _ hx)) hc.2
    have e : rawWays N (m :: t) = m :: swap m :: rawWays N t := by
      unfold rawWays
      rw [List.flatMap_cons, if_pos hm]; rfl
    have hne : m ≠ swap m := by
      have := (okL_iff.mp hm).2.2.2.2
      intro h; apply this; unfold swap at h; exact congrArg Prod.fst h
    have hnot : ∀ w, w ∈ rawWays N t → w ≠ m ∧ w ≠ swap m := by
      intro w hw
      obtain ⟨x, hx, _, h⟩ := mem_rawWays.mp hw
      have hx' := hc.1 x hx
      constructor
      · rintro rfl
        refine hx' ?_
        rcases h with rfl | rfl
        · exact Or.inl rfl
        · exact Or.inr rfl
      · rintro rfl
        refine hx' ?_
        rcases h with rfl | rfl
        · exact Or.inr rfl
        · exact Or.inl rfl
    rw [e]
    refine List.nodup_cons.mpr ⟨fun hin => ?_, List.nodup_cons.mpr ⟨fun hin => (hnot _ hin).2 rfl, hn⟩⟩
    rcases List.mem_cons.mp hin with e | hin
    · exact hne e
    · exact (hnot _ hin).1 rfl
theorem rawWays_len (N : Int) (ls : List (Int × Int)) : (rawWays N ls).length ≤ 2 * ls.length := by
  induction ls with
  | nil => simp [rawWays]
  | cons m t ih =>
    have e : rawWays N (m :: t) = (if okL N m then [m, swap m] else []) ++ rawWays N t := by unfold rawWays; rw [List.flatMap_cons]
    rw [e, List.length_append, List.length_cons]
    split <;> simp <;> omega
theorem rawWays_snoc (N : Int) (ls : List (Int × Int)) (x : Int × Int) : rawWays N (ls ++ [x]) = rawWays N ls ++ (if okL N x then [x, swap x] else []) := by
  unfold rawWays
  rw [List.flatMap_append]
  simp
theorem srt_ways {N : Int} {ls : List (Int × Int)} (ho : ∀ m ∈ ls, okL N m = true) (h1 : Once ls) : IsWays N ls (srt (rawWays N ls)) :=
  ⟨srt_rise (rawWays_nodup ho h1), fun w => ((srt_perm _).mem_iff).trans mem_rawWays⟩
theorem info24 : (Tryd.prog.info? 24).map (fun i => (i.zero, i.size, i.bytes)) = some (some (.agg #[.int .i64 0, .int .i64 0]), k24.sz, 16) := by kernel_rfl
/-- a row of pairs written out. -/
theorem R_lit24 (w : World) (base : Nat) (hb : base ≤ w.heap.size) (xs : List (Int × Int)) (hx : xs.length ≤ 1000) (cs : Array Value) (hcs : cs = flatK enc2 2 xs.toArray) : k24.R 24 (w.alloc (.cells cs 24)) base (fun _ => True) (.slice (some ⟨w.heap.size, 0, none⟩) xs.length xs.length) xs := by
  refine R24_of_own ⟨by rw [Array.length_toList, RowK.flat_len]; simp, .inr ⟨w.heap.size, xs.length, cs, rfl, hb, heap_alloc_new w _, Nat.le_refl _, by unfold maxLen; omega, by rw [hcs, RowK.flat_len]; simp, ?_⟩⟩
  rw [hcs, List.take_of_length_le]
  rw [Array.length_toList, RowK.flat_len]
  simp
theorem C_two (w : World) (x y : Int × Int) : Kd.C k24 (w.alloc (.cells #[vI x.1, vI x.2, vI y.1, vI y.2] 24)) (some ⟨w.heap.size, 0, none⟩) 2 [x, y] :=
  (Kd.R_reads' (R_lit24 w 0 (Nat.zero_le _) [x, y] (by simp) #[vI x.1, vI x.2, vI y.1, vI y.2] (by
    apply Array.ext
    · simp [flatK]
    · intro i h1 h2
      have h3 : i = 0 ∨ i = 1 ∨ i = 2 ∨ i = 3 := by simp at h1; omega
      rcases h3 with rfl | rfl | rfl | rfl <;> simp [flatK, enc2]))).2.2
theorem compact24' {base : Nat} (A : Option Addr) (k c : Nat) (xs : List (Int × Int)) (w : World) (hR : k24.R 24 w base (fun _ => True) (.slice A k c) xs) (hl : xs.length ≤ 10000000) (hok : ∀ x ∈ xs, S70.ok x) (hne : xs.Nodup) :
    Calls Tryd.prog 47 #[.slice A k c] w fun e w' => e = .returned (.slice A k c) ∧ ∃ q, w' = w.drewN q := by
  obtain ⟨hk, hc, hC⟩ := Kd.R_reads' hR
  subst hk
  refine compact24 A c xs w hC hc hl hok (fun i x y hx hy e => ?_)
  subst e
  obtain ⟨h1, e1⟩ := List.getElem?_eq_some_iff.mp hx
  obtain ⟨h2, e2⟩ := List.getElem?_eq_some_iff.mp hy
  exact (List.pairwise_iff_getElem.mp hne) i (i + 1) h1 h2 (by omega) (e1.trans e2.symm)
def WaysPost (N : Int) (ls : List (Int × Int)) (w : World) (e : Ending) (w' : World) : Prop :=
  ∃ l v, e = .returned v ∧ IsWays N ls l ∧ k24.R 24 w' w.heap.size (fun _ => True) v l ∧ Below w.heap.size w w'
set_option maxHeartbeats 8000000 in
set_option maxRecDepth 100000 in
theorem ways_calls (N : Int) (A : Option Addr) (c : Nat) (ls : List (Int × Int)) (w : World) (hr : Kd.C k24 w A ls.length ls) (hc : ls.length ≤ c) (hl : ls.length ≤ 1000000) (hN : N ≤ 1000000) (ho : ∀ m ∈ ls, okL N m = true) (h1 : Once ls) :
    Calls Tryd.prog 19 #[.agg #[.int .i64 N, .slice A ls.length c]] w fun e w' => WaysPost N ls w e w' := by
  have F0 := Aside0.mk hr
  have HO := Aside0.mk (And.intro ho h1)
  clear hr ho h1
  go_enter Tryd.func19, Tryd.ntmps19
  go_wp2_with fail
  go_loopg [3, 9] ls.length (fun q s3 s9 wr => ∃ i : Nat, s9 = .int .i64 (i : Int) ∧ Aside0 (q + i = ls.length) ∧ Aside0 (k24.R 24 wr (w.heap.size + 1) (fun _ => True) s3 (rawWays N (ls.take i))) ∧ Aside0 (Below (w.heap.size + 1) (box27 w N A ls.length c) wr))
  case atStart => exact ⟨0, rfl, ⟨by omega⟩, ⟨Kd.R_nil _ _ _ _ _⟩, ⟨Below.refl _ _⟩⟩
  case round =>
    obtain ⟨i, rfl, HQ, HR, HB⟩ := hrel
    have BK : (box27 w N A ls.length c).heap[w.heap.size]? = some (.cells #[.int .i64 N, .slice A ls.length c] 27 (0, 0)) := heap_alloc_new w _
    have hg0 : wr.cell? ⟨w.heap.size, 0, none⟩ = some (.int .i64 N) := (HB.out.cell (by simp)).trans ((blk_cell BK 0).trans rfl)
    have hg1 : wr.cell? ⟨w.heap.size, 1, none⟩ = some (.slice A ls.length c) := (HB.out.cell (by simp)).trans ((blk_cell BK 1).trans rfl)
    clear BK
    have hsz : w.heap.size + 1 ≤ wr.heap.size := by have := HB.out.size; simpa using this
    have HBW : Aside0 (Below w.heap.size w wr) := ⟨(below_alloc (Below.refl _ _) _).trans (HB.out.mono (by omega))⟩
    by_cases hlt : i < ls.length
    · obtain ⟨⟨xa, xb⟩, hx⟩ : ∃ x, ls[i]? = some x := ⟨_, List.getElem?_eq_getElem hlt⟩
      obtain ⟨ad, ea, hx0, hx1⟩ := at24n (Kd.C_below F0.out HBW.out) hx
      have hok := HO.out.1 _ (List.mem_of_getElem? hx)
      have HX := Aside0.mk hx
      clear hx
      cases ea
      have hi6 : (i : Int) + 1 ≤ 1000000 := by omega
      go_upto_region 5 with (fail)
      have hL : (wr.alloc (Obj.cells #[.int .i64 xa, .int .i64 xb] 24)).heap[wr.heap.size]? = some (.cells #[.int .i64 xa, .int .i64 xb] 24 (0, 0)) := heap_alloc_new wr _
      have hA := Aside0.mk (below_alloc (Below.refl wr.heap.size wr) (Obj.cells #[.int .i64 xa, .int .i64 xb] 24))
      generalize wr.alloc (Obj.cells #[.int .i64 xa, .int .i64 xb] 24) = w1 at hA hL ⊢
      have hg2 := pw_cell_below hA.out hg0
      have hg3 := pw_cell_below hA.out hg1
      have hl0 : w1.cell? ⟨wr.heap.size, 0, none⟩ = some (.int .i64 xa) := (blk_cell hL 0).trans rfl
      have hl1 : w1.cell? ⟨wr.heap.size, 1, none⟩ = some (.int .i64 xb) := (blk_cell hL 1).trans rfl
      clear hg0 hg1 hx0 hx1 hL
      have HL2 : Aside0 (((rawWays N (ls.take i)).length + 2) * 16 ≤ 140737488355328) := ⟨by
        have h1 := rawWays_len N (ls.take i)
        have h3 : (ls.take i).length ≤ ls.length := by rw [List.length_take]; omega
        omega⟩
      go_wp2_with (first | (go_at_call 42; refine (may_calls N xa xb _ rfl _).mono ?_; rintro e w2 ⟨rfl, hb2⟩; rw [hok]; have hl2 := pw_cell_below hb2 hl0; have hl3 := pw_cell_below hb2 hl1; have HB2 := Aside0.mk (below_step hA.out hb2); clear hb2 hl0 hl1 hg2 hg3) | (refine Kd.R_append_rows k24 (Rr := k24.K (w2.alloc (.cells #[.int .i64 xa, .int .i64 xb, .int .i64 xb, .int .i64 xa] 24))) (w0 := box27 w N (some ad) ls.length c) (w.heap.size + 1) rfl (.tmp 16) (.tmp 23) 25 24 (.agg #[.int .i64 0, .int .i64 0]) 16 rfl Tryd.underlying25 info24 rfl (by decide) (by omega) u3 (rawWays N (ls.take i)) [(xa, xb), (xb, xa)] (some ⟨w2.heap.size, 0, none⟩) 2 2 (fun _ => True) (fun _ => False) rfl rfl ?aO ?aR ?aM (fun _ hk => hk.elim) ?aF ?aB ?aS ?aL ?_; (case aO => exact R_step HR.out (below_alloc HB2.out _)); (case aR => exact C_two w2 (xa, xb) (xb, xa)); (case aM => exact (fun _ _ h => k24_open h ▸ k24_M)); (case aF => exact (fun _ _ => trivial)); (case aB => exact HB.out.trans ((below_alloc HB2.out _).mono hsz)); (case aS => exact (by have := HB2.out.size; simp; omega)); (case aL => exact HL2.out); intro v3 w3 hO3 hB3 hg3 hv3; have HO3 := Aside0.mk hO3; have HW3 := Aside0.mk hB3; clear hO3 hB3 hg3 hv3))
      go_roundg (gk - 1)
      case measure => have := HQ.out; omega
      case rel =>
        refine ⟨i + 1, by go_num, ⟨by have := HQ.out; omega⟩, ⟨?_⟩, HW3⟩
        rw [take_one HX.out, rawWays_snoc, if_pos hok]
        exact HO3.out
    · obtain rfl : i = ls.length := by have := HQ.out; omega
      have hR0 := HR.out
      rw [List.take_length] at hR0
      have hlen := rawWays_len N ls
      have hnd := rawWays_nodup HO.out.1 HO.out.2
      have hW := srt_ways HO.out.1 HO.out.2
      obtain ⟨A3, c3, hs3⟩ := Kd.R_slice hR0
      subst hs3
      obtain ⟨k, hk⟩ : ∃ k, k = (rawWays N ls).length := ⟨_, rfl⟩
      rw [← hk] at hR0 ⊢
      have HR2 := Aside0.mk hR0
      have HS : Aside0 ((rawWays N ls).length < 1000000000 ∧ (srt (rawWays N ls)).length ≤ 10000000 ∧ (srt (rawWays N ls)).Nodup ∧ (∀ x ∈ srt (rawWays N ls), S70.ok x)) := ⟨by omega, by rw [(srt_perm _).length_eq]; omega, (srt_perm _).nodup_iff.mpr hnd, fun x hx => by
        have h := ((hW.2 x).mp hx).rng
        exact ⟨Fm.wf_int (by omega) (by omega), Fm.wf_int (by omega) (by omega)⟩⟩
      have HWS := Aside0.mk hW
      clear hk hnd hlen hR0 HR hlt HQ hW
      go_wp2_with (first | (go_at_call 43; refine (sort24 HR2.out HS.out.1 HB.out).mono ?_; rintro e w4 ⟨rfl, hR4, hB4⟩; have HR4 := Aside0.mk hR4; have HB4 := Aside0.mk hB4; clear hR4 hB4) | (go_at_call 47; refine (compact24' A3 k c3 _ _ HR4.out HS.out.2.1 HS.out.2.2.2 HS.out.2.2.1).mono ?_; rintro e w5 ⟨rfl, hq5⟩; have HQ5 := Aside0.mk hq5; clear hq5))
      go_ret
      obtain ⟨q, hq⟩ := HQ5.out
      have hb5 : Below w4.heap.size w4 w5 := by rw [hq]; exact pw_below_drewN (Below.refl _ _) q
      exact ⟨_, _, rfl, HWS.out, R_low (by omega) (R_step HR4.out hb5), (below_alloc (Below.refl _ _) _).trans ((HB4.out.trans (hb5.mono (by have := HB4.out.size; simpa using this))).mono (by omega))⟩
end Go.Proofs.YtfkkefhijhjaaaaDoor.Gr
