import Derived.Test.YtfabnapjbgamaaaGreatDoorProg
import Derived.Tactics
import Derived.Tactics2
import Derived.Defers
import Derived.Laws.Pointers
import Derived.Laws.LoneSync
import Derived.RegionTactic
import Derived.RegionCalls
import Derived.ChangeAlike
import Derived.WalkKit
import Derived.WalkSpells
import Derived.Deep.MidRow
import Derived.Below
import Derived.Test.YtfabnapjbgamaaaGreatDoorVaA
import Derived.Test.YtfabnapjbgamaaaGreatDoorVaC
import Derived.Test.YtfabnapjbgamaaaGreatDoorWWords
namespace Go.Proofs.YtfabnapjbgamaaaGreatDoor.Val
open Go.Proofs.YtfabnapjbgamaaaGreatDoorW.PrintLast Go.RowKit Go.Proofs.YtfabnapjbgamaaaGreatDoorW.PrintWords
set_option linter.unusedVariables false
set_option linter.unusedSimpArgs false
/-! ### Replacer: NewReplacer 41, buildOnce 48, Replace 42 -/
/-- The struct of a Replacer, not yet built: block g. -/
structure NR (w : World) (g : Nat) : Prop where
  ex : ∃ x r a c, w.heap[g]? = some (.cells #[.int .u32 0, .int .i32 0, x, r, .slice (some ⟨a, 0, none⟩) 4 c] 144 (0, 0)) ∧ 4 ≤ c ∧ a ≠ g ∧
    w.cell? ⟨a, 0, none⟩ = some (S1 92) ∧ w.cell? ⟨a, 1, none⟩ = some (S2 92 92) ∧ w.cell? ⟨a, 2, none⟩ = some (S1 34) ∧ w.cell? ⟨a, 3, none⟩ = some (S2 92 34)
theorem cell_set_far (w : World) (g j : Nat) (v : Value) (p : Addr) (h : p.block ≠ g) : (w.setCell ⟨g, j, none⟩ v).cell? p = w.cell? p := by
  unfold World.cell?
  rw [set_far _ _ _ _ _ h]
theorem BSR.other {w w1 : World} {gB g : Nat} (h : BSR w gB) (hn : gB ≠ g) (hg : ∀ v, w.cell? ⟨g, 0, none⟩ ≠ some (.int .u8 v)) (ho : ∀ k, k ≠ g → k < w.heap.size → w1.heap[k]? = w.heap[k]?) : BSR w1 gB := by
  have hc : ∀ (p : Addr) v, p.block ≠ g → w.cell? p = some v → w1.cell? p = some v := fun p v h1 h2 => by
    have : w1.cell? p = w.cell? p := World.cell?_of_block (ho _ h1 (lt_of_cell h2))
    rw [this]
    exact h2
  refine ⟨fun i h1 h2 h3 => hc _ _ hn (h.none_ i h1 h2 h3), ?_, ?_, ?_⟩
  · obtain ⟨b, c, h1, h2, h3⟩ := h.at34
    have hb : b ≠ g := fun e => hg _ (e ▸ h2)
    exact ⟨b, c, hc _ _ hn h1, hc _ _ hb h2, hc _ _ hb h3⟩
  · obtain ⟨b, c, h1, h2, h3⟩ := h.at92
    have hb : b ≠ g := fun e => hg _ (e ▸ h2)
    exact ⟨b, c, hc _ _ hn h1, hc _ _ hb h2, hc _ _ hb h3⟩
  · obtain ⟨A, c, h1⟩ := h.row
    exact ⟨A, c, hc _ _ hn h1⟩
/-- What buildOnce leaves. -/
structure BO (w : World) (g : Nat) (d s x : Value) (w' : World) : Prop where
  grown : w.grownBy w' (some g)
  ex : ∃ gB, BSR w' gB ∧ gB ≠ g ∧ w'.heap[g]? = some (.cells #[d, s, x, .iface 176 (.pointer (some ⟨gB, 0, none⟩)), .slice none 0 0] 144 (0, 0))
set_option maxRecDepth 1000000 in
set_option maxHeartbeats 1600000 in
theorem buildOnce_calls (g a c : Nat) (d s x r : Value) (w : World) (hg : w.heap[g]? = some (.cells #[d, s, x, r, .slice (some ⟨a, 0, none⟩) 4 c] 144 (0, 0))) (hd : ∀ v, d ≠ .int .u8 v) (hc : 4 ≤ c)
    (x0 : w.cell? ⟨a, 0, none⟩ = some (S1 92)) (x1 : w.cell? ⟨a, 1, none⟩ = some (S2 92 92)) (x2 : w.cell? ⟨a, 2, none⟩ = some (S1 34)) (x3 : w.cell? ⟨a, 3, none⟩ = some (S2 92 34)) :
    Calls Tryz.prog 70 #[.pointer (some ⟨g, 0, none⟩)] w fun e w' => e = .returned (.tuple #[]) ∧ BO w g d s x w' := by
  have hu144 := Tryz.underlying144
  have h4 : w.cell? ⟨g, 4, none⟩ = some (.slice (some ⟨a, 0, none⟩) 4 c) := cell_blk hg 4
  have hlt := lt_blk hg
  have HG := Aside0.mk hg
  go_enter Tryz.func70, Tryz.ntmps70
  go_wp2_with (go_at_call 79; (with_reducible refine (build_calls g a c w hc h4 x0 x1 x2 x3).mono ?_); rintro e w1 ⟨gB, rfl, hB, hgB, hbel⟩; have HB := Aside0.mk hB; have HBE := Aside0.mk hbel; have hg1 := (hbel.block g hlt).trans HG.out; have k3 : w1.cell? ⟨g, 3, none⟩ = some r := cell_blk hg1 3; have k4 : w1.cell? ⟨g, 4, none⟩ = some (.slice (some ⟨a, 0, none⟩) 4 c) := cell_blk hg1 4; have f3 := frozen_blk hg1 3; have f4 := frozen_blk hg1 4; clear hB hbel)
  go_end0
  have hn : gB ≠ g := by omega
  have hb1 := set_blk (set_blk hg1 3 (.iface 176 (.pointer (some ⟨gB, 0, none⟩)))) 4 (.slice none 0 0)
  refine ⟨rfl, ⟨⟨HBE.out.os, HBE.out.tape, HBE.out.output, ?_, fun k hk hne => ?_⟩, gB, ?_, hn, hb1⟩⟩
  · have := HBE.out.size
    unfold World.setCell
    simp
    exact this
  · have hne2 : k ≠ g := fun e => hne (by rw [e])
    rw [set_far _ _ _ _ _ hne2, set_far _ _ _ _ _ hne2]
    exact HBE.out.block k hk
  · refine HB.out.other hn (fun v h => hd v ?_) (fun k hk _ => ?_)
    · have h0 : w1.cell? ⟨g, 0, none⟩ = some d := cell_blk hg1 0
      rw [h0] at h
      exact Option.some.inj h
    · rw [set_far _ _ _ _ _ hk, set_far _ _ _ _ _ hk]
theorem method_replace (a : Addr) (w : World) : (method 351 176 (.pointer (some a)) "Replace").run Tryz.prog w = .ok (159, .pointer (some a)) w := by kernel_rfl
theorem after_do {w w2 : World} {g : Nat} {x : Value} (hlt : g < w.heap.size) (h : ∃ w1, BO (w.setCell ⟨g, 1, none⟩ (.int .i32 1)) g (.int .u32 0) (.int .i32 1) x w1 ∧ w2 = (w1.drew.setCell ⟨g, 0, none⟩ (.int .u32 1)).setCell ⟨g, 0 + 1, none⟩ (.int .i32 0)) :
    ∃ gB, BSR w2 gB ∧ w2.cell? ⟨g, 3, none⟩ = some (.iface 176 (.pointer (some ⟨gB, 0, none⟩))) ∧ w.grownBy w2 (some g) := by
  obtain ⟨w1, hbo, rfl⟩ := h
  obtain ⟨gB, h1, h2, h3⟩ := hbo.ex
  have hs : (w.setCell ⟨g, 1, none⟩ (.int .i32 1)).heap.size = w.heap.size := by unfold World.setCell; simp
  refine ⟨gB, h1.other h2 (fun v h => ?_) (fun k hk _ => ?_), ?_, hbo.grown.os, hbo.grown.tape, hbo.grown.output, ?_, fun k hk hne => ?_⟩
  · have h0 : w1.cell? ⟨g, 0, none⟩ = some (.int .u32 0) := cell_blk h3 0
    rw [h0] at h
    injection h with h
    injection h with h
    cases h
  · rw [set_far _ _ _ _ _ hk, set_far _ _ _ _ _ hk]
    rfl
  · have h5 : w1.drew.heap[g]? = some (.cells #[.int .u32 0, .int .i32 1, x, .iface 176 (.pointer (some ⟨gB, 0, none⟩)), .slice none 0 0] 144 (0, 0)) := h3
    exact cell_blk (set_blk (set_blk h5 0 (.int .u32 1)) (0 + 1) (.int .i32 0)) 3
  · have := hbo.grown.size
    rw [hs] at this
    unfold World.setCell
    simp
    exact this
  · have hne2 : k ≠ g := fun e => hne (by rw [e])
    rw [set_far _ _ _ _ _ hne2, set_far _ _ _ _ _ hne2]
    have := hbo.grown.block k (by rw [hs]; exact hk) hne
    rw [set_far _ _ _ _ _ hne2] at this
    exact this
set_option maxRecDepth 1000000 in
set_option maxHeartbeats 1600000 in
theorem Replace_calls (g : Nat) (s : ByteArray) (w : World) (hs : s.size ≤ 15) (H : NR w g) :
    Calls Tryz.prog 62 #[.pointer (some ⟨g, 0, none⟩), .string s] w fun e w' => e = .returned (.string ⟨(esc s.data.toList).toArray⟩) ∧ w.grownBy w' (some g) := by
  have hu144 := Tryz.underlying144
  have hu140 := Tryz.underlying140
  obtain ⟨x, r, a, c, hg, hc, hag, x0, x1, x2, x3⟩ := H.ex
  have hlt := lt_blk hg
  have hg1 := set_blk hg 1 (.int .i32 1)
  have hcf : ∀ (p : Addr), p.block ≠ g → (w.setCell ⟨g, 1, none⟩ (.int .i32 1)).cell? p = w.cell? p := fun p h => cell_set_far w g 1 _ p h
  have hbo := buildOnce_calls g a c (.int .u32 0) (.int .i32 1) x r (w.setCell ⟨g, 1, none⟩ (.int .i32 1)) hg1 (fun v h => by injection h with h; cases h) hc ((hcf _ hag).trans x0) ((hcf _ hag).trans x1) ((hcf _ hag).trans x2) ((hcf _ hag).trans x3)
  have hdo := do_first g 0 (.pointer (some ⟨g, 0, none⟩)) (BO (w.setCell ⟨g, 1, none⟩ (.int .i32 1)) g (.int .u32 0) (.int .i32 1) x) w (cell_blk hg 0) (cell_blk hg 1) (frozen_blk hg 0) (frozen_blk hg 1) hbo (fun w' hw' => by
    obtain ⟨gB, _, _, h3⟩ := hw'.ex
    exact ⟨cell_blk h3 0, cell_blk h3 1, frozen_blk h3 0, frozen_blk h3 1⟩)
  have HDO := Aside0.mk hdo
  clear hdo hbo hcf x0 x1 x2 x3
  have hmet := method_replace
  have hmf : ∀ (fn : Fn) (first cap : Array Value) (w : World), (Instr.makeFunc fn first cap).run Tryz.prog w = .ok (.func fn first cap) w := fun _ _ _ _ => rfl
  go_enter Tryz.func62, Tryz.ntmps62
  go_wp2_with (first | (go_at_call 159; (with_reducible refine (replace_calls _ s _ hs ?hb).mono ?_); (case hb => exact HB2.out); rintro e w3 ⟨rfl, hb3⟩) | (go_at_call 69; refine HDO.out.mono ?_; rintro e w2 ⟨rfl, hw2⟩; obtain ⟨gB, hB2, hc3, hgr2⟩ := after_do hlt hw2; have HB2 := Aside0.mk hB2; have HGR2 := Aside0.mk hgr2; clear hw2 hB2 hgr2))
  go_ret
  refine ⟨rfl, hb3.os.trans HGR2.out.os, hb3.tape.trans HGR2.out.tape, hb3.output.trans HGR2.out.output, Nat.le_trans HGR2.out.size hb3.size, fun k hk hne => (hb3.block k (Nat.lt_of_lt_of_le hk HGR2.out.size)).trans (HGR2.out.block k hk hne)⟩
abbrev four : List Value := [S1 92, S2 92 92, S1 34, S2 92 34]
theorem run_app4 (w : World) (N : Nat) (hN : w.heap[N]? = some (.cells four.toArray 9 (0, 0))) :
    ∃ a c w1, (Builtin.append_ #[56, 56] 56 #[.slice none 0 0, .slice (some ⟨N, 0, none⟩) 4 4]).run Tryz.prog w = .ok (.slice (some ⟨a, 0, none⟩) 4 c) w1 ∧ 4 ≤ c ∧ Below w.heap.size w w1 ∧ w.heap.size ≤ a ∧ ∀ j (hj : j < 4), w1.cell? ⟨a, j, none⟩ = some (four[j]'hj) := by
  obtain ⟨i0, hi, hzz⟩ := Option.map_eq_some_iff.1 info9
  simp only [Prod.mk.injEq] at hzz
  obtain ⟨hz0, hz1, hz2⟩ := hzz
  obtain ⟨v1, w1, h1, h2, h3, _, h4⟩ := run_append_own_at (P := Tryz.prog) (w := w) w.heap.size 56 56 9 i0 _ 1 16 Tryz.underlying56 hi hz0 hz1 hz2 rfl (by omega) (.slice none 0 0) 0 [] (own_nil _ _ _ _) ⟨N, 0, none⟩ 4 4 four rfl (fun j u hu => by
    rw [add_plain, cell_blk hN j]
    simpa using hu) (by intro v hv; simp at hv; rcases hv with rfl | rfl | rfl | rfl <;> rfl) (by simp [maxLen]) (by omega) (Nat.le_refl _)
  rcases h2.2 with ⟨rfl, h0⟩ | ⟨g, cap, cur, rfl, hb, hh, hn, _, _, ht⟩
  · omega
  · refine ⟨g, cap, w1, h1, by omega, (Below.refl _ _).grown h3 (Nat.le_refl _) (fun k hk => by simp [Value.ownBlock] at hk), hb, fun j hj => ?_⟩
    rw [cell_blk hh j]
    have e : cur.toList[j]? = some (four[j]'hj) := by
      have : (cur.toList.take (4 * 1))[j]? = four[j]? := by
        have h5 : cur.toList.take ((0 + 4) * 1) = [] ++ four := by simpa using ht
        simpa using congrArg (fun l => l[j]?) h5
      rw [List.getElem?_take_of_lt (by omega)] at this
      rw [this, List.getElem?_eq_getElem hj]
    rw [← Array.getElem?_toList]
    exact e
set_option maxRecDepth 1000000 in
set_option maxHeartbeats 1600000 in
theorem New_calls (N : Nat) (w : World) (hN : w.heap[N]? = some (.cells four.toArray 9 (0, 0))) :
    Calls Tryz.prog 61 #[.slice (some ⟨N, 0, none⟩) 4 4] w fun e w' => ∃ g, e = .returned (.pointer (some ⟨g, 0, none⟩)) ∧ NR w' g ∧ w.heap.size ≤ g ∧ Below w.heap.size w w' := by
  obtain ⟨a, c, w1, hrun, hc, hbel, ha, hcells⟩ := run_app4 w N hN
  have HRUN := Aside0.mk hrun
  have HBE := Aside0.mk hbel
  have HC := Aside0.mk hcells
  clear hrun hbel hcells
  go_enter Tryz.func61, Tryz.ntmps61
  go_wp2_with (at_builtin; refine wpList_apprun rfl (.const (.slice none 0 0)) (.tmp 8) rfl rfl (by rfl) (by rfl) HRUN.out ?_)
  go_ret
  have hlt : ∀ j (hj : j < 4), a < w1.heap.size := fun j hj => lt_of_cell (HC.out j hj)
  have hal := hlt 0 (by omega)
  have ho : ∀ j (hj : j < 4), (w1.alloc (.cells #[.int .u32 0, .int .i32 0, .int .u32 0, .nilIface, .slice (some ⟨a, 0, none⟩) 4 c] 144)).cell? ⟨a, j, none⟩ = some (four[j]'hj) := fun j hj => (World.cell?_alloc_past _ _ _ hal).trans (HC.out j hj)
  refine ⟨_, rfl, ⟨_, _, a, c, heap_alloc_last w1 _, hc, by omega, ho 0 (by omega), ho 1 (by omega), ho 2 (by omega), ho 3 (by omega)⟩, HBE.out.size, HBE.out.alloc HBE.out.size _⟩
end Go.Proofs.YtfabnapjbgamaaaGreatDoor.Val
