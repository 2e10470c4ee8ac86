import Derived.Test.YtfkkefhijhjaaaaDoorGrF
import Derived.Test.YtfkkefhijhjaaaaDoorErF
namespace Go.Proofs.YtfkkefhijhjaaaaDoor.Gr
open Go.RowKit Go.Proofs.YtfkkefhijhjaaaaDoorW.PrintWords Go.Proofs.YtfkkefhijhjaaaaDoorW.PrintLast Go.Proofs.YtfkkefhijhjaaaaDoorW.PrintMore
open Go.Proofs.YtfkkefhijhjaaaaDoor.Er (Err)
set_option linter.unusedVariables false
set_option linter.unusedSimpArgs false
noncomputable def S70 : Fm.Sp Tryd.prog (Int × Int) := Fm.pairSp Tryd.prog 70 24 4 3 Tryd.underlying24 Tryd.underlying3 (by kernel_rfl) (by kernel_rfl) (by kernel_rfl) (by kernel_rfl) (by kernel_rfl) (by kernel_rfl) Tryd.underlying70 (.bool false) (fun w => by kernel_rfl)
abbrev opG : ByteArray := ⟨#[103, 114, 97, 112, 104]⟩
def errV (g : Nat) : Option Int → Value
  | none => .nilIface
  | some i => (Err.fault g opG i (.no 2)).val
def errOk (w : World) (g : Nat) : Option Int → Prop
  | none => True
  | some i => (Err.fault g opG i (.no 2)).ok w
def CheckPost (N : Int) (ls : List (Int × Int)) (w : World) (e : Ending) (w' : World) : Prop :=
  ∃ r g, e = .returned (errV g r) ∧ Told N ls r ∧ errOk w' g r ∧ Below w.heap.size w w'
open Classical in
/-- what was met. -/
noncomputable def metF (ls : List (Int × Int)) : Int × Int → Option Value := fun p => if p ∈ ls.map joined then some (.bool true) else none
theorem metF_snoc (ls : List (Int × Int)) (l : Int × Int) : Fm.upd (metF ls) (joined l) (.bool true) = metF (ls ++ [l]) := by
  funext y
  unfold metF
  by_cases h : y = joined l
  · subst h; rw [Fm.upd_same, if_pos (by simp)]
  · rw [Fm.upd_other _ _ h]
    have e : y ∈ (ls ++ [l]).map joined ↔ y ∈ ls.map joined := by
      rw [List.map_append, List.mem_append]
      constructor
      · rintro (h1 | h1)
        · exact h1
        · exact absurd (List.mem_singleton.mp h1) h
      · exact Or.inl
    by_cases h1 : y ∈ ls.map joined
    · rw [if_pos h1, if_pos (e.mpr h1)]
    · rw [if_neg h1, if_neg (fun h2 => h1 (e.mp h2))]
theorem metF_some {ls : List (Int × Int)} {l : Int × Int} (h : ∃ m ∈ ls, m = l ∨ m = swap l) : metF ls (joined l) = some (.bool true) := by
  obtain ⟨m, hm, h⟩ := h
  unfold metF
  rw [if_pos (List.mem_map.mpr ⟨m, hm, (joined_eq m l).mpr h⟩)]
theorem metF_none {ls : List (Int × Int)} {l : Int × Int} (h : ¬ ∃ m ∈ ls, m = l ∨ m = swap l) : metF ls (joined l) = none := by
  unfold metF
  rw [if_neg]
  intro hm
  obtain ⟨m, hm, e⟩ := List.mem_map.mp hm
  exact h ⟨m, hm, (joined_eq m l).mp e⟩
theorem okj {N : Int} {x : Int × Int} (hN : N ≤ 1000000) (hok : okL N x = true) : S70.ok (joined x) := by
  have h := okL_iff.mp hok
  have h2 : (joined x).1 = min x.1 x.2 := rfl
  have h3 : (joined x).2 = max x.1 x.2 := rfl
  exact ⟨Fm.wf_int (by omega) (by omega), Fm.wf_int (by omega) (by omega)⟩
set_option maxHeartbeats 8000000 in
set_option maxRecDepth 100000 in
theorem check_calls (N : Int) (A : Option Addr) (c : Nat) (ls : List (Int × Int)) (w : World) (hr : Kd.C k24 w A ls.length ls) (hc : ls.length ≤ c) (hl : ls.length ≤ 1000000) (hN : N ≤ 1000000) :
    Calls Tryd.prog 25 #[.agg #[.int .i64 N, .slice A ls.length c]] w fun e w' => CheckPost N ls w e w' := by
  have F0 := Aside0.mk hr
  clear hr
  have hmm := @run_makeMap Tryd.prog
  go_enter Tryd.func25, Tryd.ntmps25
  go_wp2_with fail
  go_loopg [10] ls.length (fun q s10 wr => ∃ i : Nat, s10 = .int .i64 (i : Int) ∧ Aside0 (q + i = ls.length) ∧ Aside0 (∀ j, j < i → ¬ Odd N ls j) ∧ Aside0 (Fm.M S70 wr (w.heap.size + 1) i (metF (ls.take i))) ∧ Aside0 (Below (w.heap.size + 1) (box27 w N A ls.length c) wr))
  case atStart =>
    refine ⟨0, rfl, ⟨by omega⟩, ⟨fun j hj => absurd hj (Nat.not_lt_zero _)⟩, ⟨?_⟩, ⟨(Below.refl _ _).alloc (by simp) _⟩⟩
    have h := Fm.M.new (S := S70) (box27 w N A ls.length c)
    rw [World.size_alloc] at h
    have e : metF (ls.take 0) = fun _ => none := by funext y; simp [metF]
    rw [e]
    exact h
  case round =>
    clear hmm
    obtain ⟨i, rfl, HQ, HO, HM, HB⟩ := hrel
    have BK : (box27 w N A ls.length c).heap[w.heap.size]? = some (.cells #[.int .i64 N, .slice A ls.length c] 27 (0, 0)) := heap_alloc_new w _
    have hg0 : wr.cell? ⟨w.heap.size, 0, none⟩ = some (.int .i64 N) := (HB.out.cell (by simp)).trans ((blk_cell BK 0).trans rfl)
    have hg1 : wr.cell? ⟨w.heap.size, 1, none⟩ = some (.slice A ls.length c) := (HB.out.cell (by simp)).trans ((blk_cell BK 1).trans rfl)
    clear BK
    have HBW : Aside0 (Below w.heap.size w wr) := ⟨(below_alloc (Below.refl _ _) _).trans (HB.out.mono (by omega))⟩
    by_cases hlt : i < ls.length
    · obtain ⟨⟨xa, xb⟩, hx⟩ : ∃ x, ls[i]? = some x := ⟨_, List.getElem?_eq_getElem hlt⟩
      have hxr : rd24 ls i = (xa, xb) := by unfold rd24; rw [Int.toNat_natCast, List.getD_eq_getElem?_getD, hx]; rfl
      obtain ⟨ad, ea, hx0, hx1⟩ := at_24 (Kd.C_below F0.out HBW.out) i (by omega) (by omega)
      rw [hxr] at hx0 hx1
      simp only [Int.toNat_natCast] at hx0 hx1
      have HX := Aside0.mk hx
      clear hx hxr
      cases ea
      have hi6 : (i : Int) + 1 ≤ 1000000 := by omega
      go_upto_region 5 with (fail)
      have hL : (wr.alloc (Obj.cells #[.int .i64 xa, .int .i64 xb] 24)).heap[wr.heap.size]? = some (.cells #[.int .i64 xa, .int .i64 xb] 24 (0, 0)) := heap_alloc_new wr _
      have hA := Aside0.mk (below_alloc (Below.refl wr.heap.size wr) (Obj.cells #[.int .i64 xa, .int .i64 xb] 24))
      generalize wr.alloc (Obj.cells #[.int .i64 xa, .int .i64 xb] 24) = w1 at hA hL ⊢
      have hg2 := pw_cell_below hA.out hg0
      have hg3 := pw_cell_below hA.out hg1
      have hl0 : w1.cell? ⟨wr.heap.size, 0, none⟩ = some (.int .i64 xa) := (blk_cell hL 0).trans rfl
      have hl1 : w1.cell? ⟨wr.heap.size, 1, none⟩ = some (.int .i64 xb) := (blk_cell hL 1).trans rfl
      clear hg0 hg1 hx0 hx1
      have HL := Aside0.mk hL
      clear hL
      have hsz : w.heap.size + 1 ≤ wr.heap.size := by have := HB.out.size; simpa using this
      cases hok : okL N (xa, xb)
      · go_wp2_with (first | (go_at_call 42; refine (may_calls N xa xb _ rfl _).mono ?_; rintro e w2 ⟨rfl, hb2⟩; rw [hok]; have HB2 := Aside0.mk hb2; clear hb2) | (go_at_call 54; refine (Er.new_any opG (i : Int) (.no 2) _).mono ?_; rintro e w3 ⟨rfl, rfl⟩))
        go_ret
        refine ⟨some (i : Int), w2.heap.size, rfl, Or.inr (Or.inl ⟨i, rfl, ⟨_, HX.out, Or.inl hok⟩, HO.out⟩), Er.new_ok opG _ (.no 2) _ trivial, ?_⟩
        exact below_alloc (below_step (below_step HBW.out hA.out) HB2.out) _
      · have hj : S70.ok (joined (xa, xb)) := okj hN hok
        have HJ := Aside0.mk hj
        clear hj
        by_cases hin : ∃ m ∈ ls.take i, m = (xa, xb) ∨ m = swap (xa, xb)
        · have HF := Aside0.mk (metF_some hin)
          have HIN := Aside0.mk hin
          clear hin
          go_wp2_with (first | (go_at_call 42; refine (may_calls N xa xb _ rfl _).mono ?_; rintro e w2 ⟨rfl, hb2⟩; rw [hok]; have hl2 := pw_cell_below hb2 hl0; have hl3 := pw_cell_below hb2 hl1; have HB2 := Aside0.mk hb2; clear hb2) | (go_at_call 53; refine (joined_ex xa xb _).mono ?_; rintro e w3 ⟨rfl, hb3⟩; have HB3 := Aside0.mk (below_step (below_step hA.out HB2.out) hb3); have hlk := (HM.out.below HB3.out).look HJ.out; rw [HF.out] at hlk; replace hlk : Sem.run Tryd.prog (Instr.lookup 70 (Value.map (some (w.heap.size + 1))) (Value.agg #[.int .i64 (joined (xa, xb)).1, .int .i64 (joined (xa, xb)).2]) false) w3 = .ok (.bool true) w3 := hlk; clear hb3) | (go_at_call 54; refine (Er.new_any opG (i : Int) (.no 2) _).mono ?_; rintro e w4 ⟨rfl, rfl⟩))
          go_ret
          refine ⟨some (i : Int), w3.heap.size, rfl, Or.inr (Or.inl ⟨i, rfl, ⟨_, HX.out, Or.inr HIN.out⟩, HO.out⟩), Er.new_ok opG _ (.no 2) _ trivial, ?_⟩
          exact below_alloc (below_step HBW.out HB3.out) _
        · have HF := Aside0.mk (metF_none hin)
          have HIN := Aside0.mk hin
          clear hin
          go_wp2_with (first | (go_at_call 42; refine (may_calls N xa xb _ rfl _).mono ?_; rintro e w2 ⟨rfl, hb2⟩; rw [hok]; have hl2 := pw_cell_below hb2 hl0; have hl3 := pw_cell_below hb2 hl1; have HB2 := Aside0.mk (below_step hA.out hb2); clear hb2 hl0 hl1) | (go_at_call 53; refine (joined_ex xa xb _).mono ?_; rintro e w3 ⟨rfl, hb3⟩; have hl4 := pw_cell_below hb3 hl2; have hl5 := pw_cell_below hb3 hl3; clear hl2 hl3; have hl2 := hl4; have hl3 := hl5; clear hl4 hl5; have HB3 := Aside0.mk (below_step HB2.out hb3); clear HB2; have HB2 := HB3; have hlk := (HM.out.below HB3.out).look HJ.out; rw [HF.out] at hlk; replace hlk : Sem.run Tryd.prog (Instr.lookup 70 (Value.map (some (w.heap.size + 1))) (Value.agg #[.int .i64 (joined (xa, xb)).1, .int .i64 (joined (xa, xb)).2]) false) w3 = .ok (.bool false) w3 := hlk; obtain ⟨w5, hput, hM5, ht5⟩ := (HM.out.below HB3.out).store HJ.out (.bool true) (by unfold maxLen; omega); replace hput : Sem.run Tryd.prog (Instr.mapUpdate 70 (Value.map (some (w.heap.size + 1))) (Value.agg #[.int .i64 (joined (xa, xb)).1, .int .i64 (joined (xa, xb)).2]) (.bool true)) w3 = .ok () w5 := hput; have HM5 := Aside0.mk hM5; have HT5 := Aside0.mk ht5; clear hb3 hM5 ht5))
          go_roundg (gk - 1)
          case measure => have := HQ.out; omega
          case rel =>
            have hB3 : Below (w.heap.size + 1) (box27 w N (some ad) ls.length c) w3 := HB.out.trans (HB3.out.mono hsz)
            refine ⟨i + 1, by go_num, ⟨by have := HQ.out; omega⟩, ⟨fun j hj hodd => ?_⟩, ⟨?_⟩, ⟨Fm.turned_below hB3 HT5.out (Nat.le_refl _) (by have := HB3.out.size; omega)⟩⟩
            · by_cases hji : j = i
              · subst hji
                obtain ⟨l, hl', ho⟩ := hodd
                have hlx : l = (xa, xb) := by rw [HX.out] at hl'; exact (Option.some.inj hl').symm
                subst hlx
                rcases ho with ho | ho
                · rw [hok] at ho; cases ho
                · exact HIN.out ho
              · exact HO.out j (by omega) hodd
            · have h := HM5.out
              rw [HF.out] at h
              rw [take_one HX.out, ← metF_snoc]
              exact h
    · obtain rfl : i = ls.length := by have := HQ.out; omega
      have HNO : Aside0 (∀ j, ¬ Odd N ls j) := ⟨fun j hodd => by
        by_cases hj : j < ls.length
        · exact HO.out j hj hodd
        · obtain ⟨l, hl', _⟩ := hodd
          rw [List.getElem?_eq_none (by omega)] at hl'
          cases hl'⟩
      have hTold : ∀ {g : Nat} {w' : World}, ¬ Right N ls → (Err.fault g opG (-1) (.no 2)).ok w' → Below w.heap.size w w' → CheckPost N ls w (.returned (Err.fault g opG (-1) (.no 2)).val) w' :=
        fun {g w'} h1 h2 h3 => ⟨some (-1), g, rfl, Or.inr (Or.inr ⟨rfl, HNO.out, h1⟩), h2, h3⟩
      have HT := Aside0.mk @hTold
      clear hTold
      clear HO HM HQ hlt
      by_cases h1 : N < 1
      · have d1 : decide (N < 1) = true := decide_eq_true h1
        go_upto_region 9 with (fail)
        go_quiet (fail)
        go_wp2_with (first | (go_at_call 54; refine (Er.new_any opG (-1) (.no 2) _).mono ?_; rintro e w4 ⟨rfl, rfl⟩))
        go_ret
        exact HT.out (fun h => by have := h.n1; omega) (Er.new_ok opG _ (.no 2) _ trivial) (below_alloc (pw_below_drewN HBW.out _) _)
      · have d1 : decide (N < 1) = false := decide_eq_false h1
        by_cases h2 : N > 64
        · have d2 : decide (64 < N) = true := decide_eq_true h2
          go_upto_region 9 with (fail)
          go_quiet (fail)
          go_wp2_with (first | (go_at_call 54; refine (Er.new_any opG (-1) (.no 2) _).mono ?_; rintro e w4 ⟨rfl, rfl⟩))
          go_ret
          exact HT.out (fun h => by have := h.n2; omega) (Er.new_ok opG _ (.no 2) _ trivial) (below_alloc (pw_below_drewN HBW.out _) _)
        · have d2 : decide (64 < N) = false := decide_eq_false h2
          by_cases h3 : 200 < ls.length
          · have d3 : decide ((200 : Int) < (ls.length : Int)) = true := decide_eq_true (by omega)
            go_upto_region 9 with (fail)
            go_quiet (fail)
            go_wp2_with (first | (go_at_call 54; refine (Er.new_any opG (-1) (.no 2) _).mono ?_; rintro e w4 ⟨rfl, rfl⟩))
            go_ret
            exact HT.out (fun h => by have := h.len; omega) (Er.new_ok opG _ (.no 2) _ trivial) (below_alloc (pw_below_drewN HBW.out _) _)
          · have d3 : decide ((200 : Int) < (ls.length : Int)) = false := decide_eq_false (by omega)
            obtain ⟨n, rfl⟩ : ∃ n : Nat, N = n := ⟨N.toNat, by omega⟩
            have hn : n ≤ 1000000 := by omega
            have hn1 : 0 < n := by omega
            have HN := Aside0.mk (And.intro h1 (And.intro h2 h3))
            clear h1 h2 h3
            have FR : Aside0 (Kd.C k24 wr A ls.length ls) := ⟨Kd.C_below F0.out HBW.out⟩
            go_upto_region 9 with (fail)
            go_cut [53] (fun s53 w2 => ∃ r : Bool, s53 = .bool r ∧ Aside0 ((r = false ↔ ∀ v : Int, 0 ≤ v → v < n → ∃ d, Dist (Adj n ls) 0 v d) ∧ Below wr.heap.size wr w2))
            case first =>
              go_region_with ((go_at_call 55; refine (reach_calls n 0 A c ls _ (Kd.C_below FR.out (by first | exact Below.refl _ _ | exact below_drew (Below.refl _ _))) hc hl ⟨by omega, by omega⟩ hn).mono ?_; rintro e w3 ⟨b, out, m, rfl, hM, hd, hm, hb3, hB⟩; have hlen : Sem.run Tryd.prog (Builtin.len_ #[110] 3 #[Value.map (some b)]) w3 = .ok (.int .i64 (m : Int)) w3 := hM.len 3; have hg4 := pw_cell_below hB hg0; have HB3 := Aside0.mk hB; have HM3 := Aside0.mk hm; clear hM hd hm hb3 hB))
              all_goals
                go_wp2_with fail
                go_meet
                refine ⟨_, rfl, ⟨?_, (below_drew (Below.refl _ _)).trans HB3.out⟩⟩
                rw [← HM3.out]
                simp
                omega
            case rest =>
              obtain ⟨r, rfl, HR⟩ := hcut
              have hri := right_iff (N := n) (ls := ls) HNO.out
              cases r
              · have HRR : Aside0 (Right n ls) := ⟨hri.mpr ⟨by have := HN.out; omega, by have := HN.out; omega, by have := HN.out; omega, HR.out.1.mp rfl⟩⟩
                clear hri
                go_wp2_with fail
                go_ret
                exact ⟨none, 0, rfl, Or.inl ⟨rfl, HRR.out⟩, trivial, below_step HBW.out HR.out.2⟩
              · have HRR : Aside0 (¬ Right n ls) := ⟨fun h => by have := HR.out.1.mpr (hri.mp h).2.2.2; cases this⟩
                clear hri
                go_wp2_with (first | (go_at_call 54; refine (Er.new_any opG (-1) (.no 2) _).mono ?_; rintro e w4 ⟨rfl, rfl⟩))
                go_ret
                exact HT.out HRR.out (Er.new_ok opG _ (.no 2) _ trivial) (below_alloc (below_step HBW.out HR.out.2) _)
end Go.Proofs.YtfkkefhijhjaaaaDoor.Gr
