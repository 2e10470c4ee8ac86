import Derived.Test.YtallbobeehbkoaaBoxesG
import Derived.Test.YtallbobeehbkoaaBoxesT
namespace Go.Proofs.Ytallbobeehbkoaa.Boxes
open Go.RowKit Go.Proofs.YtallbobeehbkoaaW.PrintWords Go.Proofs.YtallbobeehbkoaaW.PrintLast Go.Proofs.Ytallbobeehbkoaa.PInboxPlays
set_option linter.unusedVariables false
set_option linter.unusedSimpArgs false

/-- A fact that simp is not to use. -/
structure Hid (p : Prop) : Prop where
  out : p
/-- The attributes of d are a row of its own, in blocks of G. -/
def Att (G : Nat → Prop) (w : World) (base : Nat) (r : List S54) (d : Dv) : Prop := d.n = r.length ∧ d.n ≤ d.k ∧ k54.R 54 w base G (.slice d.A d.n d.k) r
theorem Att.reads {G : Nat → Prop} {w : World} {base : Nat} {r : List S54} {d : Dv} (h : Att G w base r d) : Reads w (fun _ => r) d := by
  obtain ⟨h1, h2, h3⟩ := h
  have := Kd.R_reads' h3
  exact ⟨h1, h2, this.2.2⟩
theorem Att.turn {G S : Nat → Prop} {w w' : World} {base : Nat} {r : List S54} {d : Dv} (h : Att G w base r d) (k : Turn S w w') (hs : ∀ q, G q → ¬ S q) : Att G w' base r d :=
  ⟨h.1, h.2.1, Kd.R_step h.2.2 (fun q hq hlt => k.block q hlt (hs q hq))⟩
theorem Att.mono {G G' : Nat → Prop} {w : World} {base : Nat} {r : List S54} {d : Dv} (h : Att G w base r d) (hs : ∀ q, G q → G' q) : Att G' w base r d :=
  ⟨h.1, h.2.1, Kd.R_mono h.2.2 hs⟩
theorem R_form54 {w : World} {base : Nat} {ok : Nat → Prop} {v : Value} {r : List S54} (h : k54.R 54 w base ok v r) : ∃ A n, v = .slice A r.length n ∧ r.length ≤ n := by
  obtain ⟨A, c, rfl, h2, _⟩ := Kd.R_reads h
  exact ⟨A, c, rfl, h2⟩
theorem att_of {w : World} {base : Nat} {ok : Nat → Prop} {A : Option Addr} {n : Nat} {r : List S54} (h : k54.R 54 w base ok (.slice A r.length n) r) : k54.R 54 w base (fun q => base ≤ q ∧ q < w.heap.size) (.slice A r.length n) r :=
  Kd.R_mono (Kd.R_bound h) (fun q hq => ⟨hq.2.1, hq.2.2.1⟩)
theorem mod3_rng (x : Int) : 0 ≤ x % 3 ∧ x % 3 < 3 := ⟨Int.emod_nonneg x (by omega), Int.emod_lt_of_pos x (by omega)⟩

theorem filter_next (ds : List Dv) (c : Nat) : (ds.filter (fun d => decide (d.c < ((c + 1 : Nat) : Int)))).length = (ds.filter (fun d => decide (d.c < (c : Int)))).length + (ds.filter (fun d => d.c == (c : Int))).length := by
  induction ds with
  | nil => rfl
  | cons d t ih =>
    have hh : (d.c < ((c + 1 : Nat) : Int)) ↔ (d.c < (c : Int) ∨ d.c = (c : Int)) := by omega
    by_cases h1 : d.c < (c : Int)
    · have h2 : ¬ d.c = (c : Int) := by omega
      rw [List.filter_cons_of_pos (by simpa using hh.2 (.inl h1)), List.filter_cons_of_pos (by simpa using h1), List.filter_cons_of_neg (by simpa using h2), List.length_cons, List.length_cons, ih]
      omega
    · by_cases h2 : d.c = (c : Int)
      · rw [List.filter_cons_of_pos (by simpa using hh.2 (.inr h2)), List.filter_cons_of_neg (by simpa using h1), List.filter_cons_of_pos (by simpa using h2), List.length_cons, List.length_cons, ih]
        omega
      · rw [List.filter_cons_of_neg (by simpa using (fun e => (hh.1 e).elim h1 h2)), List.filter_cons_of_neg (by simpa using h1), List.filter_cons_of_neg (by simpa using h2), ih]
theorem filter_all (ds : List Dv) (h : ∀ d ∈ ds, d.c < 3) : ds.filter (fun d => decide (d.c < ((3 : Nat) : Int))) = ds := by
  rw [List.filter_eq_self]
  intro d hd
  have := h d hd
  simp
  omega
theorem strike_ne (m : Int → List Dv) {q c : Int} (h : q ≠ c) : strike m c q = m q := by simp [strike, h]
structure SInv (w : World) (r : List S54) (ga : Nat) (va : Value) (ds : List Dv) (wr : World) (Fa G : Nat → Prop) (gk : Nat) (ck : Array Value) : Prop where
  kb : wr.heap[gk]? = some (.cells ck 36 (0, 0))
  box : Box wr w.heap.size ga 0 Fa (fun _ => []) []
  row : Row wr w.heap.size va ds
  att : ∀ d ∈ ds, Att G wr w.heap.size r d
  rng : ∀ d ∈ ds, 0 ≤ d.c ∧ d.c < 3
  apart : ∀ q, Fa q → ¬ G q
  ra : ∀ q, va.ownBlock = some q → ¬ Fa q
  rg : ∀ q, va.ownBlock = some q → ¬ G q
  la : ∀ q, Fa q → q < wr.heap.size
  lg : ∀ q, G q → q < wr.heap.size
  sa : ∀ q, Fa q → w.heap.size ≤ q
  bel : Below w.heap.size w wr
theorem SInv.below {w : World} {r : List S54} {ga : Nat} {va : Value} {ds : List Dv} {wr w' : World} {Fa G : Nat → Prop} {gk : Nat} {ck : Array Value} (h : SInv w r ga va ds wr Fa G gk ck) (hb : Below wr.heap.size wr w') : SInv w r ga va ds w' Fa G gk ck :=
  { h with
    kb := (hb.block gk (blk_lt h.kb)).trans h.kb
    box := h.box.below hb
    row := h.row.below hb
    att := fun d hd => (h.att d hd).turn (S := fun _ => False) (Turn.of_below hb) (fun _ _ x => x)
    la := fun q hq => Nat.lt_of_lt_of_le (h.la q hq) hb.size
    lg := fun q hq => Nat.lt_of_lt_of_le (h.lg q hq) hb.size
    bel := below_step h.bel hb }
theorem SInv.next {w : World} {r : List S54} {ga : Nat} {va v1 : Value} {ds : List Dv} {wr W w1 : World} {Fa G : Nat → Prop} {gk : Nat} {ck : Array Value} (h : SInv w r ga va ds wr Fa G gk ck) (hb : Below wr.heap.size wr W) {c p s : Int} {A : Option Addr} {n b : Nat}
    (ha : k54.R 54 W b (fun q => b ≤ q ∧ q < W.heap.size) (.slice A r.length n) r) (hbw : wr.heap.size ≤ b) (hn : r.length ≤ n) (hg : W.grownBy w1 va.ownBlock) (hr : Row w1 w.heap.size v1 (ds ++ [⟨c, p, s, A, r.length, n⟩]))
    (hat : v1.ownBlock = va.ownBlock ∨ ∃ q, v1.ownBlock = some q ∧ W.heap.size ≤ q) (hc : 0 ≤ c ∧ c < 3) :
    SInv w r ga v1 (ds ++ [⟨c, p, s, A, r.length, n⟩]) w1 Fa (fun q => G q ∨ wr.heap.size ≤ q ∧ q < W.heap.size) gk ck := by
  have h1 := h.below hb
  have hT : Turn (fun q => va.ownBlock = some q) W w1 := Turn.of_grown hg (fun q hq => hq)
  have hs := h.bel.size
  have hs1 := hb.size
  have hs2 := hg.size
  have hlt := fun q hq => (h.row.lt q hq).2
  exact { kb := (hT.block gk (blk_lt h1.kb) (fun e => by
            obtain ⟨cs, hcs⟩ := h1.row.typed gk e
            rw [h1.kb] at hcs
            cases hcs)).trans h1.kb
          box := h1.box.turn hT (fun q hq hn => h.ra q hn hq)
          row := hr
          att := fun d hd => by
            rcases List.mem_append.1 hd with hd | hd
            · exact ((h1.att d hd).turn hT (fun q hq hn => h.rg q hn hq)).mono (fun q hq => .inl hq)
            · simp only [List.mem_singleton] at hd
              subst hd
              refine ⟨rfl, hn, Kd.R_mono (Kd.R_step (Kd.R_lower ha (by omega)) (fun q hq _ => hT.block q hq.2 (fun e => ?_))) (fun q hq => .inr ⟨by omega, hq.2⟩)⟩
              have := hlt q e
              omega
          rng := fun d hd => by
            rcases List.mem_append.1 hd with hd | hd
            · exact h.rng d hd
            · simp only [List.mem_singleton] at hd
              subst hd
              exact hc
          apart := fun q hq hn => by
            rcases hn with hn | hn
            · exact h.apart q hq hn
            · have := h.la q hq
              omega
          ra := fun q hq hn => by
            rcases hat with hat | ⟨b, hb, hle⟩
            · exact h.ra q (hat ▸ hq) hn
            · rw [hq] at hb
              cases hb
              have := h.la q hn
              omega
          rg := fun q hq hn => by
            rcases hat with hat | ⟨b, hb, hle⟩
            · rcases hn with hn | hn
              · exact h.rg q (hat ▸ hq) hn
              · have := hlt q (hat ▸ hq)
                omega
            · rw [hq] at hb
              cases hb
              rcases hn with hn | hn
              · have := h.lg q hn
                omega
              · omega
          la := fun q hq => by have := h.la q hq; omega
          lg := fun q hq => by
            rcases hq with hq | hq
            · have := h.lg q hq
              omega
            · omega
          sa := h.sa
          bel := h1.bel.trans (hT.below (B := w.heap.size) (by omega) (fun q hq => (h.row.lt q hq).1)) }
end Go.Proofs.Ytallbobeehbkoaa.Boxes
