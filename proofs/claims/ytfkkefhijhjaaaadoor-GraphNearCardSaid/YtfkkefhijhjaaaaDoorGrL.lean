import Derived.Test.YtfkkefhijhjaaaaDoorGrK
namespace Go.Proofs.YtfkkefhijhjaaaaDoor.Gr
open Go.RowKit Go.Proofs.YtfkkefhijhjaaaaDoorW.PrintWords Go.Proofs.YtfkkefhijhjaaaaDoorW.PrintLast Go.Proofs.YtfkkefhijhjaaaaDoorW.PrintMore
set_option linter.unusedVariables false
set_option linter.unusedSimpArgs false
open Classical in
noncomputable def inF (ls : List (Int × Int)) : Int × Int → Option Value := fun p => if p ∈ ls then some (.bool true) else none
theorem inF_mem {ls : List (Int × Int)} {x : Int × Int} (h : x ∈ ls) : inF ls x = some (.bool true) := by unfold inF; rw [if_pos h]
theorem inF_not {ls : List (Int × Int)} {x : Int × Int} (h : x ∉ ls) : inF ls x = none := by unfold inF; rw [if_neg h]
theorem inF_snoc (ls : List (Int × Int)) (l : Int × Int) : Fm.upd (inF ls) l (.bool true) = inF (ls ++ [l]) := by
  funext y
  by_cases h : y = l
  · subst h; rw [Fm.upd_same, inF_mem (by simp)]
  · rw [Fm.upd_other _ _ h]
    by_cases h1 : y ∈ ls
    · rw [inF_mem h1, inF_mem (List.mem_append_left _ h1)]
    · rw [inF_not h1, inF_not (by simp [h1, h])]
/-- what keep.Graph holds while it puts links. -/
structure GS (w : World) (base bi bg mb : Nat) (N : Int) (ls : List (Int × Int)) (v : Value) : Prop where
  hi : w.heap[bi]? = some (.cells #[.map (some mb)] 70 (0, 0))
  hg : w.heap[bg]? = some (.cells #[.int .i64 N, v] 27 (0, 0))
  map : Fm.M S70 w mb ls.length (inF ls)
  row : k24.R 24 w base (fun _ => True) v ls
  bi_ : base ≤ bi
  bg_ : base ≤ bg
  mb_ : base ≤ mb
theorem GS.below {w w' : World} {base bi bg mb : Nat} {N : Int} {ls : List (Int × Int)} {v : Value} (h : GS w base bi bg mb N ls v) (hb : Below w.heap.size w w') : GS w' base bi bg mb N ls v :=
  { h with hi := (hb.block bi (blk_lt h.hi)).trans h.hi, hg := (hb.block bg (blk_lt h.hg)).trans h.hg, map := h.map.below hb, row := R_step h.row hb }
theorem k24_E : k24.E = [] := rfl
theorem GS.put {w w1 w2 w0 : World} {base bi bg mb : Nat} {N : Int} {ls : List (Int × Int)} {v v3 : Value} {x : Int × Int} (h : GS w base bi bg mb N ls v) (hx : x ∉ ls)
    (hM : Fm.M S70 w1 mb (ls.length + 1) (Fm.upd (inF ls) x (.bool true))) (ht : w.mapTurned w1 mb) (hR : k24.R 24 w2 base (fun _ => True) v3 (ls ++ [x])) (hg : w1.grownBy w2 v.ownBlock) (hB : Below base w0 w) (hB2 : Below base w1 w2) :
    GS (w2.setCell ⟨bg, 1, none⟩ v3) base bi bg mb N (ls ++ [x]) v3 ∧ Below base w0 (w2.setCell ⟨bg, 1, none⟩ v3) := by
  have hsz : base ≤ w.heap.size := Nat.le_trans h.bg_ (Nat.le_of_lt (blk_lt h.hg))
  have e_i : bi ≠ mb := fun e => h.map.ne_cells h.hi e.symm
  have e_g : bg ≠ mb := fun e => h.map.ne_cells h.hg e.symm
  have hi1 := (Fm.turned_block ht e_i).trans h.hi
  have hg1 := (Fm.turned_block ht e_g).trans h.hg
  have hRow1 : k24.R 24 w1 base (fun _ => True) v ls := Kd.R_mono (Kd.R_move (Kd.R_bound h.row) (fun k hk => by
    obtain ⟨_, _, _, q, _, cells, hc⟩ := hk
    exact Fm.turned_block ht (fun e => h.map.ne_cells hc e.symm))) (fun _ _ => trivial)
  have n_i : some bi ≠ v.ownBlock := Kd.R_ne hRow1 hi1 (by decide)
  have n_g : some bg ≠ v.ownBlock := Kd.R_ne hRow1 hg1 (by decide)
  have hi2 := (hg.block bi (blk_lt hi1) n_i).trans hi1
  have hg2 := (hg.block bg (blk_lt hg1) n_g).trans hg1
  have n_m : some mb ≠ v.ownBlock := fun e => by
    obtain ⟨cells, hc⟩ := Kd.R_typed hRow1 mb e.symm
    exact hM.ne_cells hc rfl
  have e_ig : bi ≠ bg := by
    rintro rfl
    rw [hi2] at hg2
    cases hg2
  have hM2 := hM.move (hg.block mb hM.lt n_m)
  have hB3 : Below base w0 w2 := (Fm.turned_below hB ht h.mb_ hsz).trans hB2
  refine ⟨⟨(Below.heap_setCell w2 ⟨bg, 1, none⟩ v3 bi e_ig).trans hi2, by simpa using blk_set hg2 1 v3, ?_, Kd.R_set hR hg2 (fun q hq => by simp [k24_E] at hq; subst hq; decide) 1 v3, h.bi_, h.bg_, h.mb_⟩, hB3.setCell h.bg_ _⟩
  rw [← inF_snoc, List.length_append, List.length_singleton]
  exact hM2.move (Below.heap_setCell w2 ⟨bg, 1, none⟩ v3 mb (fun e => hM2.ne_cells hg2 e))
open Classical in
noncomputable def putTo (ls : List (Int × Int)) (a b : Int) : List (Int × Int) := if a ≠ b ∧ fresh ls a b then ls ++ [(a, b)] else ls
def PutPost (w0 : World) (base bi bg mb : Nat) (N : Int) (ls : List (Int × Int)) (a b : Int) (e : Ending) (w' : World) : Prop :=
  ∃ v', e = .returned (.tuple #[]) ∧ GS w' base bi bg mb N (putTo ls a b) v' ∧ Below base w0 w'
set_option maxHeartbeats 8000000 in
set_option maxRecDepth 100000 in
theorem put_calls (a b : Int) (w0 w : World) (base bi bg mb : Nat) (N : Int) (ls : List (Int × Int)) (v : Value) (hG : GS w base bi bg mb N ls v) (hB : Below base w0 w) (hl : ls.length ≤ 1000) (hok : S70.ok (a, b)) :
    Calls Tryd.prog 40 #[.int .i64 a, .int .i64 b, .pointer (some ⟨bi, 0, none⟩), .pointer (some ⟨bg, 0, none⟩)] w fun e w' => PutPost w0 base bi bg mb N ls a b e w' := by
  have HG := Aside0.mk hG
  have HB := Aside0.mk hB
  have hc0 : w.cell? ⟨bi, 0, none⟩ = some (.map (some mb)) := (blk_cell hG.hi 0).trans rfl
  by_cases hab : a = b
  · subst hab
    clear hok hB hG
    go_enter Tryd.func40, Tryd.ntmps40
    go_wp2_with fail
    go_end0
    exact ⟨v, rfl, by unfold putTo; rw [if_neg (fun h => h.1 rfl)]; exact HG.out, HB.out⟩
  · have q1 : (a == b) = false := by simpa using hab
    have q2 : (a != b) = true := by simp [hab]
    have hokr : S70.ok (b, a) := ⟨hok.2, hok.1⟩
    by_cases h1 : (a, b) ∈ ls
    · have hlk := hG.map.look hok
      rw [inF_mem h1] at hlk
      replace hlk : Sem.run Tryd.prog (Instr.lookup 70 (Value.map (some mb)) (Value.agg #[.int .i64 a, .int .i64 b]) false) w = .ok (.bool true) w := hlk
      have HN := Aside0.mk h1
      clear hok hokr hB hG h1
      go_enter Tryd.func40, Tryd.ntmps40
      go_wp2_with fail
      go_end0
      exact ⟨v, rfl, by unfold putTo; rw [if_neg (fun h => h.2.1 HN.out)]; exact HG.out, HB.out⟩
    · have hlk := hG.map.look hok
      rw [inF_not h1] at hlk
      replace hlk : Sem.run Tryd.prog (Instr.lookup 70 (Value.map (some mb)) (Value.agg #[.int .i64 a, .int .i64 b]) false) w = .ok (.bool false) w := hlk
      have hlk2 := hG.map.look hokr
      by_cases h2 : (b, a) ∈ ls
      · rw [inF_mem h2] at hlk2
        replace hlk2 : Sem.run Tryd.prog (Instr.lookup 70 (Value.map (some mb)) (Value.agg #[.int .i64 b, .int .i64 a]) false) w = .ok (.bool true) w := hlk2
        have HN := Aside0.mk h2
        clear hok hokr hB hG h1 h2
        go_enter Tryd.func40, Tryd.ntmps40
        go_wp2_with fail
        go_end0
        exact ⟨v, rfl, by unfold putTo; rw [if_neg (fun h => h.2.2 HN.out)]; exact HG.out, HB.out⟩
      · rw [inF_not h2] at hlk2
        replace hlk2 : Sem.run Tryd.prog (Instr.lookup 70 (Value.map (some mb)) (Value.agg #[.int .i64 b, .int .i64 a]) false) w = .ok (.bool false) w := hlk2
        obtain ⟨w1, hput, hM1, ht1⟩ := hG.map.store hok (.bool true) (by unfold maxLen; omega)
        rw [inF_not h1] at hM1
        replace hput : Sem.run Tryd.prog (Instr.mapUpdate 70 (Value.map (some mb)) (Value.agg #[.int .i64 a, .int .i64 b]) (.bool true)) w = .ok () w1 := hput
        have hg1 := (Fm.turned_block ht1 (fun e => hG.map.ne_cells hG.hg e.symm)).trans hG.hg
        have hRow1 : k24.R 24 w1 base (fun _ => True) v ls := Kd.R_mono (Kd.R_move (Kd.R_bound hG.row) (fun k hk => by
          obtain ⟨_, _, _, q, _, cells, hc⟩ := hk
          exact Fm.turned_block ht1 (fun e => hG.map.ne_cells hc e.symm))) (fun _ _ => trivial)
        have hcg : w1.cell? ⟨bg, 1, none⟩ = some v := (blk_cell hg1 1).trans rfl
        have HN := Aside0.mk (And.intro h1 h2)
        have HM1 := Aside0.mk hM1
        have HT1 := Aside0.mk ht1
        have HR1 := Aside0.mk hRow1
        have HG1 := Aside0.mk hg1
        have HS1 : Aside0 (base ≤ w1.heap.size) := ⟨by rw [Fm.turned_size ht1]; exact Nat.le_trans hG.bg_ (Nat.le_of_lt (blk_lt hG.hg))⟩
        have HL1 : Aside0 ((ls.length + 1) * 16 ≤ 140737488355328) := ⟨by omega⟩
        clear hok hokr hB hG h1 h2 hM1 ht1 hRow1 hg1
        go_enter Tryd.func40, Tryd.ntmps40
        go_wp2_with (refine Kd.R_append k24 (w0 := w1) base rfl (.tmp 30) (.tmp 34) 25 24 (.agg #[.int .i64 0, .int .i64 0]) 16 rfl Tryd.underlying25 info24 rfl (by decide) (by omega) v ls (a, b) [.int .i64 a, .int .i64 b] (fun _ => True) (fun _ => False) rfl rfl ?aP (fun _ hk => hk.elim) ?aF ?aO ?aB ?aS ?aL ?_; (case aP => exact k24_M); (case aF => exact (fun _ _ => trivial)); (case aO => exact HR1.out); (case aB => exact Below.refl _ _); (case aS => exact HS1.out); (case aL => exact HL1.out); intro v3 w3 hO3 hB3 hg3 hat3; obtain ⟨A4, c4, rfl⟩ := Kd.R_slice hO3; have HO3 := Aside0.mk hO3; have HB3 := Aside0.mk hB3; have HG3 := Aside0.mk hg3; have hn3 := (hg3.block bg (blk_lt HG1.out) (Kd.R_ne HR1.out HG1.out (by decide))).trans HG1.out; have hfr := blk_frozen hn3 1; have hcl3 : w3.cell? ⟨bg, 1, none⟩ = some v := (blk_cell hn3 1).trans rfl; clear hO3 hB3 hg3 hat3 hn3)
        go_end0
        obtain ⟨h5, h6⟩ := HG.out.put HN.out.1 HM1.out HT1.out HO3.out HG3.out HB.out HB3.out
        rw [show (ls ++ [(a, b)]).length = ls.length + 1 by simp] at h5 h6
        exact ⟨_, rfl, by unfold putTo; rw [if_pos ⟨hab, HN.out⟩]; exact h5, h6⟩
end Go.Proofs.YtfkkefhijhjaaaaDoor.Gr
