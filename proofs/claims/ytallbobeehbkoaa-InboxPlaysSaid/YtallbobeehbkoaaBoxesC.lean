import Derived.Test.YtallbobeehbkoaaBoxesB
namespace Go.Proofs.Ytallbobeehbkoaa.Boxes
open Go.RowKit Go.Proofs.YtallbobeehbkoaaW.PrintWords

def strike (m : Int → List Dv) (k : Int) : Int → List Dv := fun q => if q = k then [] else m q
theorem lit_ne {a b : Int} (h : a ≠ b) : (Lit.int .i64 a) ≠ (Lit.int .i64 b) := fun e => h (by cases e; rfl)

theorem Box'.del {w w' : World} {base g N : Nat} {F : Nat → Prop} {m : Int → List Dv} {all : List Dv} {b : Nat} {va : Value} {mv : Int → Value} {D : DataW Value}
    (h : Box' w base g N F m all b va mv D) (k : Int) (hm : w'.ownsMap Try.prog 3 rawR b N (D.del (.int .i64 k))) (ht : w.mapTurned w' b) :
    Box' w' base g N F (strike m k) all b va (fun q => if q = k then nilS else mv q) (D.del (.int .i64 k)) := by
  have hg := ht.grown
  have hbm : ∃ es clock, w.heap[b]? = some (.map es clock) := by obtain ⟨es, clock, hb, _⟩ := h.map; exact ⟨es, clock, hb⟩
  obtain ⟨es, clock, hbm⟩ := hbm
  have hgb : g ≠ b := by
    intro e
    have := h.blk
    rw [e, hbm] at this
    cases this
  have hr : ∀ {v : Value} {ds : List Dv}, Row w base v ds → Row w' base v ds := fun {v ds} hv => hv.of_block fun q hq => by
    refine hg.block q (hv.lt q hq).2 (fun e => ?_)
    obtain ⟨cs, hcs⟩ := hv.typed q hq
    cases e
    rw [hbm] at hcs
    cases hcs
  exact { blk := (hg.block g (blk_lt h.blk) (fun e => hgb (by cases e; rfl))).trans h.blk
          map := hm
          at_ := fun q hq => by
            by_cases e : q = k
            · subst e
              rw [Go.Maps.atKey_del_same, if_pos rfl]
            · rw [Go.Maps.atKey_del_other (lit_ne e), if_neg e]
              exact h.at_ q hq
          row := fun q => by
            by_cases e : q = k
            · simp only [strike, if_pos e]
              exact Row.nil _ _
            · simp only [strike, if_neg e]
              exact hr (h.row q)
          arow := hr h.arow
          apart := fun q q' hqq => by
            by_cases e : q = k
            · rw [if_pos e]; exact .inl rfl
            · rw [if_neg e]
              by_cases e' : q' = k
              · rw [if_pos e']
                cases hb : (mv q).ownBlock with
                | none => exact .inl rfl
                | some p => exact .inr (by simp [Value.ownBlock])
              · rw [if_neg e']
                exact h.apart q q' hqq
          aapart := fun q => by
            by_cases e : q = k
            · rw [if_pos e]; exact .inl rfl
            · rw [if_neg e]; exact h.aapart q
          hg := h.hg
          hb := h.hb
          Fg := h.Fg
          Fb := h.Fb
          Fm := fun q p hp => by
            by_cases e : q = k
            · rw [if_pos e] at hp; cases hp
            · rw [if_neg e] at hp; exact h.Fm q p hp
          Fa := h.Fa
          Fs := h.Fs
          lm := fun q => by
            by_cases e : q = k
            · simp [strike, e]
            · simp only [strike, if_neg e]; exact h.lm q
          la := h.la }

set_option maxHeartbeats 1000000 in
theorem drain_calls {w : World} {base g N : Nat} {F : Nat → Prop} {m : Int → List Dv} {all : List Dv} (h : Box w base g N F m all) (k : Int) (hk : wf k) (hN : N ≤ 1048576) :
    Calls Try.prog 10 #[.pointer (some ⟨g, 0, none⟩), .int .i64 k] w fun e w' => ∃ v', e = .returned v' ∧ Row w' w.heap.size v' (m k) ∧ Box w' base g N F (strike m k) all ∧ Turn F w w' := by
  go_enter Try.func10, Try.ntmps10
  go_wp2_with (first | (go_at_call 9; refine (look_calls h k hk hN).mono ?_; rintro e w1 ⟨v1, rfl, hrow, hbel⟩; obtain ⟨b, va, mv, D, h2⟩ := h.below hbel; have c0 := (blk_cell h2.blk 0).trans rfl) | (at_delete; refine wpList_delete_own _ rfl _ _ 43 3 rfl 30 keyed3 Try.underlying43 rawR b N D rfl h2.map _ (.int .i64 k) rfl (key3 k hk) ?_; intro w2 hown2 hturn2) | go_in)
  go_ret
  have h3 := h2.del k hown2 hturn2
  refine ⟨v1, rfl, hrow.of_block (fun q hq => ?_), ⟨b, va, _, _, h3⟩, (Turn.of_below hbel).trans (S2 := fun q => q = b) (Turn.of_grown hturn2.grown (fun q e => by cases e; rfl)) (fun q e => by subst e; exact .inl h2.Fb)⟩
  obtain ⟨cs, hcs⟩ := hrow.typed q hq
  obtain ⟨es, clock, hb, _⟩ := h2.map
  refine hturn2.grown.block q (hrow.lt q hq).2 (fun e => ?_)
  cases e
  rw [hb] at hcs
  cases hcs
end Go.Proofs.Ytallbobeehbkoaa.Boxes
