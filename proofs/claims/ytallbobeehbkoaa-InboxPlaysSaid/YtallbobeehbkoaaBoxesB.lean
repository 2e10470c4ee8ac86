import Derived.Test.YtallbobeehbkoaaBoxesA
namespace Go.Proofs.Ytallbobeehbkoaa.Boxes
open Go.RowKit Go.Proofs.YtallbobeehbkoaaW.PrintWords
theorem info29 : (Try.prog.info? 29).map (fun i => (i.zero, i.size, i.bytes)) = some (some (.agg #[.int .i64 0, .int .i64 0, .int .i64 0, .slice none 0 0]), 4, 48) := by kernel_rfl

theorem Row.cells {w : World} {base g n c : Nat} {ds : List Dv} (h : Row w base (.slice (some ⟨g, 0, none⟩) n c) ds) : ∀ j u, (flat ds)[j]? = some u → w.cell? ((⟨g, 0, none⟩ : Addr).add j) = some u := World.ownsRow.cells h rfl

set_option maxHeartbeats 1000000 in
theorem clone_calls {w : World} {base : Nat} {v : Value} {ds : List Dv} (h : Row w base v ds) (hl : ds.length ≤ 1048576) :
    Calls Try.prog 16 #[v] w fun e w' => ∃ v', e = .returned v' ∧ Row w' w.heap.size v' ds ∧ Below w.heap.size w w' := by
  have hu30 := Try.underlying30
  rcases h.2 with ⟨rfl, h0⟩ | ⟨g, cap, cur, rfl, hg, hh, hn, hcap, hsz, htk⟩
  · have hnn := fun w => Go.Lib.run_eql_slice_nil (P := Try.prog) w 30 29 none 0 0 0 0 Try.underlying30
    go_enter Try.func16, Try.ntmps16
    go_wp2
    go_ret
    obtain rfl : ds = [] := List.eq_nil_of_length_eq_zero h0
    exact ⟨_, rfl, Row.nil _ _, Below.refl _ _⟩
  · have hnn := fun w => Go.Lib.run_eql_slice_nil (P := Try.prog) w 30 29 (some ⟨g, 0, none⟩) ds.length cap 0 0 Try.underlying30
    obtain ⟨i0, hi, hzz⟩ := Option.map_eq_some_iff.1 info29
    simp only [Prod.mk.injEq] at hzz
    obtain ⟨hz0, hz1, hz2⟩ := hzz
    have hlen := flat_length ds
    have hcells := Row.cells h
    have hnew : (w.alloc (.cells #[] 29)).ownsRow w.heap.size 29 4 (.slice (some ⟨w.heap.size, 0, none⟩) 0 0) 0 [] := by
      have := World.ownsRow_made (base := w.heap.size) (size := 4) (e := 29) w #[] 0 (Nat.le_refl _) (Nat.zero_le _) rfl
      simpa using this
    have hcells2 : ∀ j u, (flat ds)[j]? = some u → (w.alloc (.cells #[] 29)).cell? ((⟨g, 0, none⟩ : Addr).add j) = some u := fun j u hu =>
      Go.Lib.cell?_alloc_some _ (hcells j u hu)
    go_enter Try.func16, Try.ntmps16
    go_wp2_with (first | (at_builtin; refine wpList_append_own_at _ rfl (.tmp 5) (.tmp 6) 30 rfl w.heap.size 29 i0 _ 4 48 Try.underlying30 hi hz0 hz1 hz2 rfl (by omega) (.slice (some ⟨w.heap.size, 0, none⟩) 0 0) 0 [] rfl hnew ⟨g, 0, none⟩ ds.length cap (flat ds) rfl hlen hcells2 (flat_plain ds) (by simp only [maxLen]; omega) (by omega) (by simp) ?_; intro v1 w1 hown hgr hnil hat) | go_in)
    go_ret
    refine ⟨v1, rfl, ?_, ?_⟩
    · rw [Nat.zero_add, List.nil_append] at hown
      exact hown
    · exact pw_below_grown (below_alloc (Below.refl _ _) _) _ (by simp) hgr (fun k hk => by simp [Value.ownBlock] at hk; omega)

set_option maxHeartbeats 1000000 in
theorem new_calls (w : World) (base : Nat) (hb : base ≤ w.heap.size) :
    Calls Try.prog 7 #[] w fun e w' => ∃ g, e = .returned (.pointer (some ⟨g, 0, none⟩)) ∧ w.heap.size ≤ g ∧ Box w' base g 0 (fun q => w.heap.size ≤ q) (fun _ => []) [] ∧ Below w.heap.size w w' := by
  have hmm := @run_makeMap Try.prog
  go_enter Try.func7, Try.ntmps7
  go_wp2
  go_ret
  refine ⟨w.heap.size + 1, rfl, by omega, ⟨w.heap.size, nilS, fun _ => nilS, .map [], ?_⟩, below_alloc (below_alloc (Below.refl _ _) _) _⟩
  exact { blk := by
            have := heap_alloc_new (w.alloc (.map #[] 0)) (.cells #[.map (some w.heap.size), .slice none 0 0] 45 (0, 0))
            simpa using this
          map := (World.ownsMap_made w Try.prog 3 rawR).alloc _
          at_ := fun k _ => rfl
          row := fun k => Row.nil _ _
          arow := Row.nil _ _
          apart := fun _ _ _ => .inl rfl
          aapart := fun _ => .inl rfl
          hg := by omega
          hb := hb
          Fg := by omega
          Fb := Nat.le_refl _
          Fm := fun k q hq => by cases hq
          Fa := fun q hq => by cases hq
          Fs := fun q hq => Nat.le_trans hb hq
          lm := fun _ => Nat.le_refl _
          la := Nat.le_refl _ }

set_option maxHeartbeats 1000000 in
theorem look_calls {w : World} {base g N : Nat} {F : Nat → Prop} {m : Int → List Dv} {all : List Dv} (h : Box w base g N F m all) (k : Int) (hk : wf k) (hN : N ≤ 1048576) :
    Calls Try.prog 9 #[.pointer (some ⟨g, 0, none⟩), .int .i64 k] w fun e w' => ∃ v', e = .returned v' ∧ Row w' w.heap.size v' (m k) ∧ Below w.heap.size w w' := by
  obtain ⟨b, va, mv, D, h⟩ := h
  have c0 := (blk_cell h.blk 0).trans rfl
  have hlook := run_look h.map hk (h.at_ k hk)
  go_enter Try.func9, Try.ntmps9
  go_wp2_with (first | (go_at_call 16; refine (clone_calls (h.row k) (Nat.le_trans (h.lm k) hN)).mono ?_; rintro e w' ⟨v', rfl, hrow, hbel⟩) | go_in)
  go_ret
  exact ⟨v', rfl, hrow, hbel⟩

set_option maxHeartbeats 1000000 in
theorem all_calls {w : World} {base g N : Nat} {F : Nat → Prop} {m : Int → List Dv} {all : List Dv} (h : Box w base g N F m all) (hN : N ≤ 1048576) :
    Calls Try.prog 11 #[.pointer (some ⟨g, 0, none⟩)] w fun e w' => ∃ v', e = .returned v' ∧ Row w' w.heap.size v' all ∧ Below w.heap.size w w' := by
  obtain ⟨b, va, mv, D, h⟩ := h
  have c1 := (blk_cell h.blk 1).trans rfl
  go_enter Try.func11, Try.ntmps11
  go_wp2_with (first | (go_at_call 16; refine (clone_calls h.arow (Nat.le_trans h.la hN)).mono ?_; rintro e w' ⟨v', rfl, hrow, hbel⟩) | go_in)
  go_ret
  exact ⟨v', rfl, hrow, hbel⟩
end Go.Proofs.Ytallbobeehbkoaa.Boxes
