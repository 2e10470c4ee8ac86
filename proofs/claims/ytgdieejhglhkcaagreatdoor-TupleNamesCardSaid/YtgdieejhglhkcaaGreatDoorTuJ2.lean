import Derived.Test.YtgdieejhglhkcaaGreatDoorTuJ
import Derived.Test.YtgdieejhglhkcaaGreatDoorWEqStruct
namespace Go.Proofs.YtgdieejhglhkcaaGreatDoor.MTup
open Go.RowKit Go.Lib Go.Proofs.YtgdieejhglhkcaaGreatDoorW.PrintWords Go.Proofs.YtgdieejhglhkcaaGreatDoorW.PrintLast Go.Proofs.YtgdieejhglhkcaaGreatDoorW.PrintMore
set_option linter.unusedVariables false
set_option linter.unusedSimpArgs false
theorem pw_of_drewN {W W1 : World} {n : Nat} (h : W1 = W.drewN n) : Below W.heap.size W W1 := by rw [h]; exact pw_below_drewN (Below.refl _ _) _
/-- What two builds leave, in either order. -/
structure J2 (W0 : World) (cs : Array Value) (g h : Nat) (W : World) : Prop where
  bel : Below W0.heap.size W0 W
  nil : W.heap[g]? = some (.cells #[] 25 (0, 0))
  lit : W.heap[h]? = some (.cells cs 25 (0, 0))
  ne : h ≠ g
  g0 : W0.heap.size ≤ g
  h0 : W0.heap.size ≤ h
theorem j2_a (W0 : World) (cs : Array Value) : J2 W0 cs W0.heap.size (W0.alloc (.cells #[] 25)).heap.size ((W0.alloc (.cells #[] 25)).alloc (.cells cs 25)) :=
  ⟨below_alloc (below_alloc (Below.refl _ _) _) _, (Val.old_alloc (by simp)).trans (heap_alloc_new W0 _), heap_alloc_new _ _, by simp, Nat.le_refl _, by simp⟩
theorem j2_b (W0 : World) (cs : Array Value) : J2 W0 cs (W0.alloc (.cells cs 25)).heap.size W0.heap.size ((W0.alloc (.cells cs 25)).alloc (.cells #[] 25)) :=
  ⟨below_alloc (below_alloc (Below.refl _ _) _) _, heap_alloc_new _ _, (Val.old_alloc (by simp)).trans (heap_alloc_new W0 _), by simp, by simp, Nat.le_refl _⟩
theorem j2_app {W0 W : World} {base g h : Nat} {x : S25} (H : J2 W0 #[.string x.f0, .bool x.f1.f0, .int .i64 x.f1.f1, .string x.f1.f2] g h W) (hbase : base ≤ W0.heap.size) :
    ∃ v1 w1, (Builtin.append_ #[26, 26] 26 #[.slice (some ⟨g, 0, none⟩) 0 0, .slice (some ⟨h, 0, none⟩) 1 1]).run Tryz.prog W = .ok v1 w1 ∧ Own25 w1 base v1 ([] ++ [x]) ∧ Below W0.heap.size W0 w1 ∧ (∀ q, v1.ownBlock = some q → W0.heap.size ≤ q) := by
  have HO : Own25 W base (.slice (some ⟨g, 0, none⟩) 0 0) [] := own25_of_cells (ds := []) (by simpa [flat25] using H.nil) (by simp) (Nat.le_trans hbase H.g0)
  obtain ⟨v1, w1, hrun, hrow, hgr, hat⟩ := run_app25 1 HO (ys := [x]) (one_25 x H.lit) (Nat.le_trans hbase H.bel.size) (by simp)
  refine ⟨v1, w1, hrun, hrow, grown_below H.bel hgr (fun q hq => by simp [Value.ownBlock] at hq; have := H.g0; omega), fun q hq => ?_⟩
  rcases hat with hat | ⟨b, hb, hle⟩
  · rw [hat] at hq
    simp [Value.ownBlock] at hq
    have := H.g0
    omega
  · rw [hq] at hb
    cases hb
    have := H.bel.size
    omega
theorem jr_more {W0 W : World} {base c : Nat} {xs ys : List S25} {v : Value} {A : Option Addr} (hrow : Own25 W base v xs) (hbel : Below W0.heap.size W0 W) (hfr : ∀ q, v.ownBlock = some q → W0.heap.size ≤ q) (HX : Kd.C k25 W0 A ys.length ys) (hbase : base ≤ W0.heap.size) (hl : xs.length + ys.length ≤ 2932031007402) :
    ∃ v88 w2, (Builtin.append_ #[26, 26] 26 #[v, .slice A ys.length c]).run Tryz.prog W = .ok v88 w2 ∧ Own25 w2 base v88 (xs ++ ys) ∧ Below W0.heap.size W0 w2 ∧ (∀ q, v88.ownBlock = some q → W0.heap.size ≤ q) := by
  obtain ⟨v1, w1, hrun, hrow, hgr, hat⟩ := run_app25 c hrow (Kd.C_below HX hbel) (Nat.le_trans hbase hbel.size) hl
  refine ⟨v1, w1, hrun, hrow, grown_below hbel hgr hfr, fun q hq => ?_⟩
  rcases hat with hat | ⟨b, hb, hle⟩
  · exact hfr q (hat ▸ hq)
  · rw [hq] at hb
    cases hb
    have := hbel.size
    omega
theorem eqA23 (d : Nat) (w : World) (x0 y0 : Bool) (x1 y1 : Int) (x2 y2 : ByteArray) :
    (Op.equalIn (d + 2) 23 (.agg #[.bool x0, .int .i64 x1, .string x2]) (.agg #[.bool y0, .int .i64 y1, .string y2])).run Tryz.prog w = .ok (x0 == y0 && (x1 == y1 && (x2.toList == y2.toList))) w := by
  refine eqA_of Tryz.underlying23 (by kernel_rfl) ?_
  refine eqf_cons (by rfl) (by go_simp; rfl) (by go_simp; rfl) (by go_simp) ?_
  refine eqf_cons (by rfl) (by go_simp; rfl) (by go_simp; rfl) (by go_simp) ?_
  exact eqf_last (by rfl) (by go_simp; rfl) (by go_simp; rfl) (by go_simp)
theorem neq23_false {x0 y0 : Bool} {x1 y1 : Int} {x2 y2 : ByteArray} {w : World} (h_ : (!(x0 == y0) || (!(x1 == y1) || (!(x2.toList == y2.toList)))) = false) : (binOp .neq 23 (.agg #[.bool x0, .int .i64 x1, .string x2]) (.agg #[.bool y0, .int .i64 y1, .string y2])).run Tryz.prog w = .ok (.bool false) w := by
  have h := eqA23 9998 w x0 y0 x1 y1 x2 y2
  simp only [Bool.or_eq_false_iff, Bool.not_eq_false'] at h_
  rw [h_.1, h_.2.1, h_.2.2] at h
  simp only [binOp]
  simp [Op.equal, Op.maxDepth, h]
end Go.Proofs.YtgdieejhglhkcaaGreatDoor.MTup
