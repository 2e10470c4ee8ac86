import Derived.Lib.SlicesCompact
namespace Go.Proofs.YtfkkefhijhjaaaaDoor.Gr

theorem len_le_sub {α : Type} [DecidableEq α] : ∀ (l1 l2 : List α), l1.Nodup → (∀ x ∈ l1, x ∈ l2) → l1.length ≤ l2.length
  | [], l2, _, _ => by simp
  | x :: t, l2, hn, hs => by
    have hx : x ∈ l2 := hs x (List.mem_cons_self ..)
    have hn' := List.nodup_cons.mp hn
    have := len_le_sub t (l2.erase x) hn'.2 (fun y hy => by
      have hne : y ≠ x := fun h => hn'.1 (h ▸ hy)
      exact (List.mem_erase_of_ne hne).mpr (hs y (List.mem_cons_of_mem _ hy)))
    have hl := List.length_erase_of_mem hx
    have hp : 0 < l2.length := List.length_pos_of_mem hx
    simp only [List.length_cons]
    omega

/-- the brokers' numbers. -/
def nums (N : Nat) : List Int := (List.range N).map fun (i : Nat) => (i : Int)

theorem mem_nums {N : Nat} {v : Int} : v ∈ nums N ↔ 0 ≤ v ∧ v < N := by
  unfold nums
  simp only [List.mem_map, List.mem_range]
  constructor
  · rintro ⟨i, hi, rfl⟩; omega
  · rintro ⟨h0, h1⟩; exact ⟨v.toNat, by omega, by omega⟩

theorem len_nums (N : Nat) : (nums N).length = N := by simp [nums]

theorem nodup_nums (N : Nat) : (nums N).Nodup := by
  unfold nums List.Nodup
  rw [List.pairwise_map]
  exact List.Pairwise.imp (fun h e => h (by omega)) (List.nodup_range (n := N))

theorem len_le_of_rng {N : Nat} {l : List Int} (hn : l.Nodup) (h : ∀ v ∈ l, 0 ≤ v ∧ v < N) : l.length ≤ N := by
  have := len_le_sub l (nums N) hn (fun x hx => mem_nums.mpr (h x hx))
  rwa [len_nums] at this

theorem full_iff {N : Nat} {l : List Int} (hn : l.Nodup) (h : ∀ v ∈ l, 0 ≤ v ∧ v < N) : l.length = N ↔ ∀ v : Int, 0 ≤ v → v < N → v ∈ l := by
  constructor
  · intro hl v h0 h1
    refine Decidable.byContradiction fun hv => ?_
    have := len_le_of_rng (N := N) (l := v :: l) (List.nodup_cons.mpr ⟨hv, hn⟩) (by
      intro u hu
      rcases List.mem_cons.mp hu with rfl | hu
      · exact ⟨h0, h1⟩
      · exact h u hu)
    simp only [List.length_cons] at this
    omega
  · intro ha
    have h1 := len_le_of_rng hn h
    have h2 := len_le_sub (nums N) l (nodup_nums N) (fun x hx => ha x (mem_nums.mp hx).1 (mem_nums.mp hx).2)
    rw [len_nums] at h2
    omega

/-- two rising rows of the same numbers are one. -/
theorem rise_unique {α : Type} (lt : α → α → Prop) (asym : ∀ a b, lt a b → ¬ lt b a) : ∀ (l l' : List α), l.Pairwise lt → l'.Pairwise lt → (∀ x, x ∈ l ↔ x ∈ l') → l = l'
  | [], [], _, _, _ => rfl
  | [], y :: t', _, _, h => by have := (h y).mpr (List.mem_cons_self ..); simp at this
  | x :: t, [], _, _, h => by have := (h x).mp (List.mem_cons_self ..); simp at this
  | x :: t, y :: t', h1, h2, h => by
    have h1' := List.pairwise_cons.mp h1
    have h2' := List.pairwise_cons.mp h2
    have irr : ∀ a, ¬ lt a a := fun a ha => asym a a ha ha
    have exy : x = y := by
      have hx : x = y ∨ x ∈ t' := by simpa using (h x).mp (List.mem_cons_self ..)
      have hy : y = x ∨ y ∈ t := by simpa using (h y).mpr (List.mem_cons_self ..)
      rcases hx with e | hx
      · exact e
      · rcases hy with e | hy
        · exact e.symm
        · exact absurd (h1'.1 y hy) (asym _ _ (h2'.1 x hx))
    subst exy
    congr 1
    refine rise_unique lt asym t t' h1'.2 h2'.2 fun z => ?_
    constructor
    · intro hz
      have : z = x ∨ z ∈ t' := by simpa using (h z).mp (List.mem_cons_of_mem _ hz)
      rcases this with e | hz'
      · subst e; exact absurd (h1'.1 z hz) (irr z)
      · exact hz'
    · intro hz
      have : z = x ∨ z ∈ t := by simpa using (h z).mpr (List.mem_cons_of_mem _ hz)
      rcases this with e | hz'
      · subst e; exact absurd (h2'.1 z hz) (irr z)
      · exact hz'

/-! ### how far -/

def Rn (E : Int → Int → Prop) (a : Int) : Nat → Int → Prop
  | 0, v => v = a
  | n + 1, v => Rn E a n v ∨ ∃ u, Rn E a n u ∧ E u v

variable {E : Int → Int → Prop} {a : Int}

theorem Rn.up {n v} (h : Rn E a n v) : Rn E a (n + 1) v := Or.inl h

theorem Rn.mono {n m v} (hle : n ≤ m) (h : Rn E a n v) : Rn E a m v := by
  induction hle with
  | refl => exact h
  | step _ ih => exact ih.up

theorem Rn.step {n u v} (h : Rn E a n u) (he : E u v) : Rn E a (n + 1) v := Or.inr ⟨u, h, he⟩

theorem Rn.trans {n m b c} (h : Rn E a n b) : Rn E b m c → Rn E a (n + m) c := by
  induction m generalizing c with
  | zero => intro h2; rw [show c = b from h2]; exact h
  | succ m ih =>
    rintro (h2 | ⟨u, h2, he⟩)
    · exact (ih h2).up
    · exact (ih h2).step he

theorem Rn.symm (hs : ∀ u v, E u v → E v u) {n b} (h : Rn E a n b) : Rn E b n a := by
  induction n generalizing b with
  | zero => exact (show b = a from h).symm
  | succ n ih =>
    rcases h with h | ⟨u, h, he⟩
    · exact (ih h).up
    · have h1 : Rn E b 1 u := Or.inr ⟨b, rfl, hs _ _ he⟩
      have := h1.trans (ih h)
      rwa [Nat.add_comm] at this

def Dist (E : Int → Int → Prop) (a v : Int) (d : Nat) : Prop := Rn E a d v ∧ ∀ m, m < d → ¬ Rn E a m v

theorem Dist.uniq {v d d'} (h : Dist E a v d) (h' : Dist E a v d') : d = d' := by
  rcases Nat.lt_trichotomy d d' with hl | e | hl
  · exact absurd h.1 (h'.2 _ hl)
  · exact e
  · exact absurd h'.1 (h.2 _ hl)

theorem Dist.le {v d n} (h : Dist E a v d) (hr : Rn E a n v) : d ≤ n :=
  Nat.le_of_not_lt fun hl => h.2 _ hl hr

theorem Dist.of_rn : ∀ {n v}, Rn E a n v → ∃ d, d ≤ n ∧ Dist E a v d := by
  intro n
  induction n with
  | zero => intro v h; exact ⟨0, Nat.le_refl _, h, fun m hm => absurd hm (Nat.not_lt_zero _)⟩
  | succ n ih =>
    intro v h
    by_cases hn : Rn E a n v
    · obtain ⟨d, hd, h⟩ := ih hn; exact ⟨d, by omega, h⟩
    · exact ⟨n + 1, Nat.le_refl _, h, fun m hm hr => hn (hr.mono (by omega))⟩

theorem Dist.self : Dist E a a 0 := ⟨rfl, fun _ hm => absurd hm (Nat.not_lt_zero _)⟩

theorem Dist.zero {v} (h : Dist E a v 0) : v = a := h.1

theorem Dist.pred {v d} (h : Dist E a v (d + 1)) : ∃ u, Dist E a u d ∧ E u v := by
  rcases h.1 with h1 | ⟨u, h1, he⟩
  · exact absurd h1 (h.2 _ (Nat.lt_succ_self _))
  · refine ⟨u, ⟨h1, fun m hm hr => h.2 (m + 1) (by omega) (hr.step he)⟩, he⟩

theorem Dist.symm (hs : ∀ u v, E u v → E v u) {b d} (h : Dist E a b d) : Dist E b a d :=
  ⟨h.1.symm hs, fun m hm hr => h.2 m hm (hr.symm hs)⟩

/-- a shortest way meets one broker at each distance. -/
theorem Dist.chain : ∀ {d v}, Dist E a v d → ∃ l : List Int, l.length = d + 1 ∧ l.Nodup ∧ (∀ u ∈ l, ∃ k, k ≤ d ∧ Dist E a u k) := by
  intro d
  induction d with
  | zero => intro v h; exact ⟨[v], rfl, by simp, fun u hu => ⟨0, Nat.le_refl _, by rw [List.mem_singleton.mp hu]; exact h⟩⟩
  | succ d ih =>
    intro v h
    obtain ⟨u, hu, _⟩ := h.pred
    obtain ⟨l, hl, hn, hk⟩ := ih hu
    refine ⟨v :: l, by simp [hl], List.nodup_cons.mpr ⟨fun hv => ?_, hn⟩, ?_⟩
    · obtain ⟨k, hk', hd⟩ := hk v hv
      have := hd.uniq h
      omega
    · intro x hx
      rcases List.mem_cons.mp hx with rfl | hx
      · exact ⟨d + 1, Nat.le_refl _, h⟩
      · obtain ⟨k, hk', hd⟩ := hk x hx; exact ⟨k, by omega, hd⟩

theorem Rn.rng {N : Nat} (hE : ∀ u v, E u v → 0 ≤ v ∧ v < (N : Int)) (ha : 0 ≤ a ∧ a < (N : Int)) {n v} (h : Rn E a n v) : 0 ≤ v ∧ v < (N : Int) := by
  induction n generalizing v with
  | zero => rw [show v = a from h]; exact ha
  | succ n ih =>
    rcases h with h | ⟨u, _, he⟩
    · exact ih h
    · exact hE u v he

theorem Dist.lt {N : Nat} (hE : ∀ u v, E u v → 0 ≤ v ∧ v < (N : Int)) (ha : 0 ≤ a ∧ a < (N : Int)) {d v} (h : Dist E a v d) : d < N := by
  obtain ⟨l, hl, hn, hk⟩ := h.chain
  have := len_le_of_rng (N := N) hn (fun u hu => by obtain ⟨k, _, hd⟩ := hk u hu; exact hd.1.rng hE ha)
  omega

/-! ### the row of those that are met -/

def upd (out : Int → Option Nat) (b : Int) (d : Nat) : Int → Option Nat := fun v => if v = b then some d else out v

structure Bfs (E : Int → Int → Prop) (a : Int) (N : Nat) (out : Int → Option Nat) (ks row : List Int) : Prop where
  ka : out a = some 0
  dist : ∀ v d, out v = some d → Dist E a v d
  dom : ∀ v, v ∈ ks ↔ (out v).isSome = true
  nodup : ks.Nodup
  rng : ∀ v ∈ ks, 0 ≤ v ∧ v < (N : Int)
  rowin : ∀ v ∈ row, v ∈ ks
  closed : ∀ v ∈ ks, v ∉ row → ∀ u, E v u → u ∈ ks
  sorted : row.Pairwise fun u v => (out u).getD 0 ≤ (out v).getD 0
  near1 : ∀ x, row.head? = some x → ∀ v ∈ row, (out v).getD 0 ≤ (out x).getD 0 + 1

theorem Bfs.start {N : Nat} (ha : 0 ≤ a ∧ a < (N : Int)) : Bfs E a N (upd (fun _ => none) a 0) [a] [a] where
  ka := by simp [upd]
  dist v d h := by
    unfold upd at h
    split at h
    · next e => subst e; cases h; exact Dist.self
    · cases h
  dom v := by unfold upd; by_cases h : v = a <;> simp [h]
  nodup := by simp
  rng v hv := by rw [List.mem_singleton.mp hv]; exact ha
  rowin v hv := hv
  closed v hv hn := absurd hv hn
  sorted := by simp
  near1 x hx v hv := by
    simp at hx hv; subst hx; subst hv; omega

/-- whoever is nearer than the row's head is met, and its neighbours are. -/
theorem Bfs.met {N out ks x rest d} (h : Bfs E a N out ks (x :: rest)) (hx : out x = some d) : ∀ {k u}, k < d + 1 → Rn E a k u → u ∈ ks ∧ ∀ e, out u = some e → e ≤ k := by
  intro k
  induction k with
  | zero =>
    intro u _ hr
    rw [show u = a from hr]
    exact ⟨(h.dom a).mpr (by rw [h.ka]; rfl), fun e he => by rw [h.ka] at he; cases he; omega⟩
  | succ k ih =>
    intro u hk hr
    have hm : u ∈ ks := by
      rcases hr with hr | ⟨w, hr, he⟩
      · exact (ih (by omega) hr).1
      · obtain ⟨hw, hle⟩ := ih (by omega) hr
        refine h.closed w hw (fun hrow => ?_) u he
        have hs := (h.dom w).mp hw
        obtain ⟨e, he'⟩ := Option.isSome_iff_exists.mp hs
        have hek := hle e he'
        rcases List.mem_cons.mp hrow with rfl | hin
        · rw [hx] at he'; cases he'; omega
        · have := (List.pairwise_cons.mp h.sorted).1 w hin
          rw [hx, he'] at this
          simp at this
          omega
    exact ⟨hm, fun e he => (h.dist u e he).le hr⟩

theorem Bfs.add {N out ks x rest d b} (h : Bfs E a N out ks (x :: rest)) (hx : out x = some d) (he : E x b) (hb : out b = none) (hr : 0 ≤ b ∧ b < (N : Int)) :
    Bfs E a N (upd out b (d + 1)) (ks ++ [b]) (x :: rest ++ [b]) := by
  have hbk : b ∉ ks := fun hm => by have := (h.dom b).mp hm; rw [hb] at this; cases this
  have ne : ∀ v, v ∈ ks → v ≠ b := fun v hv e => hbk (e ▸ hv)
  have upo : ∀ v, v ∈ ks → upd out b (d + 1) v = out v := fun v hv => by unfold upd; rw [if_neg (ne v hv)]
  have xk : x ∈ ks := h.rowin x (List.mem_cons_self ..)
  have ub : upd out b (d + 1) b = some (d + 1) := by unfold upd; rw [if_pos rfl]
  have hd : Dist E a b (d + 1) := by
    refine ⟨(h.dist x d hx).1.step he, fun m hm hrm => ?_⟩
    exact hbk (h.met hx (by omega) hrm).1
  refine ⟨?_, ?_, ?_, ?_, ?_, ?_, ?_, ?_, ?_⟩
  · rw [upo a ((h.dom a).mpr (by rw [h.ka]; rfl))]; exact h.ka
  · intro v e hv
    by_cases hvb : v = b
    · subst hvb; rw [ub] at hv; cases hv; exact hd
    · unfold upd at hv; rw [if_neg hvb] at hv; exact h.dist v e hv
  · intro v
    unfold upd
    by_cases hvb : v = b
    · simp [hvb]
    · simp [hvb, h.dom v]
  · rw [List.nodup_append]
    refine ⟨h.nodup, by simp, ?_⟩
    intro u hu v hv
    rw [List.mem_singleton.mp hv]
    exact ne u hu
  · intro v hv
    rcases List.mem_append.mp hv with hv | hv
    · exact h.rng v hv
    · rw [List.mem_singleton.mp hv]; exact hr
  · intro v hv
    rcases List.mem_append.mp hv with hv | hv
    · exact List.mem_append_left _ (h.rowin v hv)
    · exact List.mem_append_right _ hv
  · intro v hv hn u hu
    rcases List.mem_append.mp hv with hv | hv
    · exact List.mem_append_left _ (h.closed v hv (fun hin => hn (List.mem_append_left _ hin)) u hu)
    · exact absurd (List.mem_append_right _ hv) hn
  · rw [List.pairwise_append]
    refine ⟨?_, by simp, ?_⟩
    · refine h.sorted.imp_of_mem ?_
      intro u v hu hv hle
      rw [upo u (h.rowin u hu), upo v (h.rowin v hv)]; exact hle
    · intro u hu v hv
      rw [List.mem_singleton.mp hv, upo u (h.rowin u hu), ub]
      have := h.near1 x rfl u hu
      rw [hx] at this
      simpa using this
  · intro y hy v hv
    simp at hy
    subst hy
    rw [upo x xk]
    rcases List.mem_append.mp hv with hv | hv
    · rw [upo v (h.rowin v hv)]; exact h.near1 x rfl v hv
    · rw [List.mem_singleton.mp hv, ub, hx]; simp

theorem Bfs.pop {N out ks x rest} (h : Bfs E a N out ks (x :: rest)) (hall : ∀ u, E x u → u ∈ ks) : Bfs E a N out ks rest := by
  refine ⟨h.ka, h.dist, h.dom, h.nodup, h.rng, fun v hv => h.rowin v (List.mem_cons_of_mem _ hv), ?_, (List.pairwise_cons.mp h.sorted).2, ?_⟩
  · intro v hv hn u hu
    by_cases hvx : v = x
    · subst hvx; exact hall u hu
    · exact h.closed v hv (fun hin => by rcases List.mem_cons.mp hin with e | hin; exact hvx e; exact hn hin) u hu
  · intro y hy v hv
    have hy' : y ∈ rest := List.mem_of_mem_head? hy
    have h1 := h.near1 x rfl v (List.mem_cons_of_mem _ hv)
    have h2 := (List.pairwise_cons.mp h.sorted).1 y hy'
    omega

theorem Bfs.fin {N out ks} (h : Bfs E a N out ks []) (v : Int) (d : Nat) : out v = some d ↔ Dist E a v d := by
  refine ⟨h.dist v d, fun hd => ?_⟩
  have key : ∀ n u, Rn E a n u → u ∈ ks := by
    intro n
    induction n with
    | zero => intro u hr; rw [show u = a from hr]; exact (h.dom a).mpr (by rw [h.ka]; rfl)
    | succ n ih =>
      rintro u (hr | ⟨w, hr, he⟩)
      · exact ih u hr
      · exact h.closed w (ih w hr) (by simp) u he
  obtain ⟨e, he⟩ := Option.isSome_iff_exists.mp ((h.dom v).mp (key d v hd.1))
  rw [he, (h.dist v e he).uniq hd]

theorem Bfs.size {N out ks row} (h : Bfs E a N out ks row) : ks.length ≤ N := len_le_of_rng h.nodup h.rng

theorem Bfs.full {N out ks} (h : Bfs E a N out ks []) : ks.length = N ↔ ∀ v : Int, 0 ≤ v → v < N → ∃ d, Dist E a v d := by
  rw [full_iff h.nodup h.rng]
  constructor
  · intro hf v h0 h1
    obtain ⟨e, he⟩ := Option.isSome_iff_exists.mp ((h.dom v).mp (hf v h0 h1))
    exact ⟨e, h.dist v e he⟩
  · intro hf v h0 h1
    obtain ⟨d, hd⟩ := hf v h0 h1
    exact (h.dom v).mpr (by rw [(h.fin v d).mpr hd]; rfl)

/-! ### the reference's rounds -/

def Mid (E : Int → Int → Prop) (a : Int) (N n : Nat) (P : Int → Int → Prop) (far : Int → Int) : Prop :=
  ∀ v : Int, 0 ≤ v → v < N → (far v = -1 ∧ (∀ d, d ≤ n → ¬ Dist E a v d) ∧ ∀ u, P u v → ¬ Dist E a u n) ∨ ∃ d : Nat, Dist E a v d ∧ d ≤ n + 1 ∧ far v = d

theorem Mid.start {N : Nat} {far : Int → Int} (hf : ∀ v : Int, 0 ≤ v → v < N → far v = if v = a then 0 else -1) : Mid E a N 0 (fun _ _ => False) far := by
  intro v h0 h1
  by_cases hv : v = a
  · subst hv
    exact Or.inr ⟨0, Dist.self, by omega, by rw [hf v h0 h1, if_pos rfl]; rfl⟩
  · refine Or.inl ⟨by rw [hf v h0 h1, if_neg hv], fun d hd hD => ?_, fun _ h => h.elim⟩
    have : d = 0 := by omega
    subst this
    exact hv hD.zero

/-- a link, one way round. -/
theorem Mid.edge {N n : Nat} {P P' : Int → Int → Prop} {far : Int → Int} {u v : Int} (h : Mid E a N n P far) (he : E u v) (hu : 0 ≤ u ∧ u < (N : Int)) (hv : 0 ≤ v ∧ v < (N : Int)) (hP : ∀ x y, P' x y → P x y ∨ (x = u ∧ y = v)) (far' : Int → Int)
    (hf : ∀ x, far' x = if far u = n ∧ far v < 0 ∧ x = v then (n : Int) + 1 else far x) : Mid E a N n P' far' := by
  intro x h0 h1
  have hU := h u hu.1 hu.2
  by_cases hc : far u = n ∧ far v < 0 ∧ x = v
  · obtain ⟨c1, c2, rfl⟩ := hc
    rw [hf, if_pos ⟨c1, c2, rfl⟩]
    have hDu : Dist E a u n := by
      rcases hU with ⟨h, _⟩ | ⟨d, hd, _, hfd⟩
      · omega
      · have : d = n := by omega
        subst this; exact hd
    rcases h x h0 h1 with ⟨_, hno, _⟩ | ⟨d, _, _, hfd⟩
    · refine Or.inr ⟨n + 1, ⟨hDu.1.step he, fun m hm hr => ?_⟩, Nat.le_refl _, by simp⟩
      obtain ⟨d, hd, hD⟩ := Dist.of_rn hr
      exact hno d (by omega) hD
    · omega
  · rw [hf, if_neg hc]
    rcases h x h0 h1 with ⟨hm, hno, hp⟩ | h
    · refine Or.inl ⟨hm, hno, fun y hy hD => ?_⟩
      rcases hP y x hy with hy | ⟨rfl, rfl⟩
      · exact hp y hy hD
      · refine hc ⟨?_, by omega, rfl⟩
        rcases hU with ⟨_, hno', _⟩ | ⟨d, hd, _, hfd⟩
        · exact absurd hD (hno' n (Nat.le_refl _))
        · rw [hfd, hd.uniq hD]
    · exact Or.inr h

theorem Mid.next {N n : Nat} {P : Int → Int → Prop} {far : Int → Int} (h : Mid E a N n P far) (hP : ∀ x y, E x y → P x y) : Mid E a N (n + 1) (fun _ _ => False) far := by
  intro v h0 h1
  rcases h v h0 h1 with ⟨hm, hno, hp⟩ | ⟨d, hd, hle, hf⟩
  · refine Or.inl ⟨hm, fun d hd hD => ?_, fun _ h => h.elim⟩
    by_cases e : d = n + 1
    · subst e
      obtain ⟨u, hu, hE⟩ := hD.pred
      exact hp u (hP u v hE) hu
    · exact hno d (by omega) hD
  · exact Or.inr ⟨d, hd, by omega, hf⟩

theorem Mid.fin {N : Nat} {far : Int → Int} (hE : ∀ u v, E u v → 0 ≤ v ∧ v < (N : Int)) (ha : 0 ≤ a ∧ a < (N : Int)) (h : Mid E a N N (fun _ _ => False) far) (v : Int) (h0 : 0 ≤ v) (h1 : v < N) :
    (far v = -1 ∧ ∀ d, ¬ Dist E a v d) ∨ ∃ d : Nat, Dist E a v d ∧ far v = d := by
  rcases h v h0 h1 with ⟨hm, hno, _⟩ | ⟨d, hd, _, hf⟩
  · exact Or.inl ⟨hm, fun d hD => hno d (Nat.le_of_lt (hD.lt hE ha)) hD⟩
  · exact Or.inr ⟨d, hd, hf⟩

/-! ### links -/

def okL (N : Int) (l : Int × Int) : Bool := decide (0 ≤ l.1) && decide (l.1 < N) && (decide (0 ≤ l.2) && decide (l.2 < N)) && decide (l.1 ≠ l.2)

theorem okL_iff {N : Int} {l : Int × Int} : okL N l = true ↔ 0 ≤ l.1 ∧ l.1 < N ∧ 0 ≤ l.2 ∧ l.2 < N ∧ l.1 ≠ l.2 := by
  unfold okL; simp only [Bool.and_eq_true, decide_eq_true_eq]; constructor
  · rintro ⟨⟨⟨a, b⟩, c, d⟩, e⟩; exact ⟨a, b, c, d, e⟩
  · rintro ⟨a, b, c, d, e⟩; exact ⟨⟨⟨a, b⟩, c, d⟩, e⟩

def Adj (N : Int) (ls : List (Int × Int)) (x y : Int) : Prop := ∃ l ∈ ls, okL N l = true ∧ (l = (x, y) ∨ l = (y, x))

theorem Adj.symm {N ls x y} (h : Adj N ls x y) : Adj N ls y x := by
  obtain ⟨l, hl, ho, h⟩ := h; exact ⟨l, hl, ho, h.symm⟩

theorem Adj.rng {N ls x y} (h : Adj N ls x y) : 0 ≤ x ∧ x < N ∧ 0 ≤ y ∧ y < N ∧ x ≠ y := by
  obtain ⟨l, hl, ho, rfl | rfl⟩ := h
  · exact okL_iff.mp ho
  · obtain ⟨a, b, c, d, e⟩ := okL_iff.mp ho; exact ⟨c, d, a, b, fun h => e h.symm⟩

/-- what Near collects. -/
def rawNear (N : Int) (ls : List (Int × Int)) (b : Int) : List Int :=
  ls.filterMap fun l => if okL N l then (if l.1 = b then some l.2 else if l.2 = b then some l.1 else none) else none

theorem mem_rawNear {N ls b x} : x ∈ rawNear N ls b ↔ Adj N ls b x := by
  unfold rawNear Adj
  rw [List.mem_filterMap]
  constructor
  · rintro ⟨l, hl, h⟩
    refine ⟨l, hl, ?_⟩
    by_cases ho : okL N l = true
    · rw [if_pos ho] at h
      refine ⟨ho, ?_⟩
      obtain ⟨l1, l2⟩ := l
      by_cases h1 : l1 = b
      · simp only [h1, if_true] at h; cases h; subst h1; exact Or.inl rfl
      · simp only [h1, if_false] at h
        by_cases h2 : l2 = b
        · simp only [h2, if_true] at h; cases h; subst h2; exact Or.inr rfl
        · simp only [h2, if_false] at h; cases h
    · rw [if_neg ho] at h; cases h
  · rintro ⟨l, hl, ho, h⟩
    refine ⟨l, hl, ?_⟩
    rw [if_pos ho]
    have hne := (okL_iff.mp ho).2.2.2.2
    rcases h with rfl | rfl
    · simp
    · simp only at hne ⊢
      rw [if_neg hne]; simp

/-- a row that rises. -/
def IsNear (N : Int) (ls : List (Int × Int)) (b : Int) (l : List Int) : Prop := l.Pairwise (· < ·) ∧ ∀ x, x ∈ l ↔ Adj N ls b x

theorem IsNear.uniq {N ls ls' b l l'} (h : IsNear N ls b l) (h' : IsNear N ls' b l') (he : ∀ x, Adj N ls b x ↔ Adj N ls' b x) : l = l' :=
  rise_unique (· < ·) (fun _ _ h1 h2 => absurd h1 (by omega)) l l' h.1 h'.1 fun x => (h.2 x).trans ((he x).trans (h'.2 x).symm)

theorem IsNear.len {N : Nat} {ls b l} (h : IsNear N ls b l) : l.length ≤ N := by
  refine len_le_of_rng (h.1.imp fun hlt he => by omega) fun v hv => ?_
  have := ((h.2 v).mp hv).rng
  exact ⟨this.2.2.1, this.2.2.2.1⟩

def swap (l : Int × Int) : Int × Int := (l.2, l.1)

def joined (l : Int × Int) : Int × Int := (min l.1 l.2, max l.1 l.2)

theorem joined_eq (l m : Int × Int) : joined l = joined m ↔ l = m ∨ l = swap m := by
  obtain ⟨a, b⟩ := l; obtain ⟨c, d⟩ := m
  unfold joined swap
  simp only [Prod.mk.injEq]
  omega

def lexlt (l m : Int × Int) : Prop := l.1 < m.1 ∨ l.1 = m.1 ∧ l.2 < m.2

theorem lexlt_asym (l m : Int × Int) (h : lexlt l m) : ¬ lexlt m l := by unfold lexlt at *; omega

def rawWays (N : Int) (ls : List (Int × Int)) : List (Int × Int) := ls.flatMap fun l => if okL N l then [l, swap l] else []

theorem mem_rawWays {N ls w} : w ∈ rawWays N ls ↔ Adj N ls w.1 w.2 := by
  unfold rawWays Adj
  rw [List.mem_flatMap]
  constructor
  · rintro ⟨l, hl, h⟩
    by_cases ho : okL N l = true
    · rw [if_pos ho] at h
      refine ⟨l, hl, ho, ?_⟩
      rcases List.mem_cons.mp h with rfl | h
      · exact Or.inl rfl
      · rw [List.mem_singleton.mp h]; exact Or.inr rfl
    · rw [if_neg ho] at h; simp at h
  · rintro ⟨l, hl, ho, h⟩
    refine ⟨l, hl, ?_⟩
    rw [if_pos ho]
    rcases h with rfl | rfl
    · simp
    · simp [swap]

def IsWays (N : Int) (ls : List (Int × Int)) (l : List (Int × Int)) : Prop := l.Pairwise lexlt ∧ ∀ w, w ∈ l ↔ Adj N ls w.1 w.2

theorem IsWays.uniq {N ls ls' l l'} (h : IsWays N ls l) (h' : IsWays N ls' l') (he : ∀ x y, Adj N ls x y ↔ Adj N ls' x y) : l = l' :=
  rise_unique lexlt lexlt_asym l l' h.1 h'.1 fun x => (h.2 x).trans ((he x.1 x.2).trans (h'.2 x).symm)

/-- links that are told once each. -/
def Once (ls : List (Int × Int)) : Prop := ls.Pairwise fun l m => ¬ (l = m ∨ l = swap m)

theorem IsWays.len {N ls l} (h : IsWays N ls l) (ho : ∀ m ∈ ls, okL N m = true) (h1 : Once ls) : l.length = 2 * ls.length := by
  have hr : (rawWays N ls).Nodup ∧ (rawWays N ls).length = 2 * ls.length := by
    clear h
    induction ls with
    | nil => exact ⟨by simp [rawWays], rfl⟩
    | cons m t ih =>
      have hm := ho m (List.mem_cons_self ..)
      have hc := List.pairwise_cons.mp h1
      obtain ⟨hn, hl⟩ := ih (fun x hx => ho x (List.mem_cons_of_mem _ hx)) hc.2
      have e : rawWays N (m :: t) = m :: swap m :: rawWays N t := by
        unfold rawWays
        rw [List.flatMap_cons, if_pos hm]; rfl
      have hne : m ≠ swap m := by
        have := (okL_iff.mp hm).2.2.2.2
        intro h; apply this; unfold swap at h; exact congrArg Prod.fst h
      have hnot : ∀ w, w ∈ rawWays N t → w ≠ m ∧ w ≠ swap m := by
        intro w hw
        obtain ⟨x, hx, _, h⟩ := mem_rawWays.mp hw
        have hx' := hc.1 x hx
        constructor
        · rintro rfl
          refine hx' ?_
          rcases h with rfl | rfl
          · exact Or.inl rfl
          · exact Or.inr rfl
        · rintro rfl
          refine hx' ?_
          rcases h with rfl | rfl
          · exact Or.inr rfl
          · exact Or.inl rfl
      rw [e]
      refine ⟨List.nodup_cons.mpr ⟨fun hin => ?_, List.nodup_cons.mpr ⟨fun hin => (hnot _ hin).2 rfl, hn⟩⟩, by simp [hl]; omega⟩
      rcases List.mem_cons.mp hin with e | hin
      · exact hne e
      · exact (hnot _ hin).1 rfl
  have hnl : l.Nodup := h.1.imp fun hlt he => by subst he; exact lexlt_asym _ _ hlt hlt
  have e1 := len_le_sub l _ hnl fun x hx => mem_rawWays.mpr ((h.2 x).mp hx)
  have e2 := len_le_sub _ l hr.1 fun x hx => (h.2 x).mpr (mem_rawWays.mp hx)
  omega

/-- a graph that may be. -/
structure Right (N : Int) (ls : List (Int × Int)) : Prop where
  n1 : 1 ≤ N
  n2 : N ≤ 64
  len : ls.length ≤ 200
  ok : ∀ l ∈ ls, okL N l = true
  once : Once ls
  conn : ∀ v, 0 ≤ v → v < N → ∃ d, Dist (Adj N ls) 0 v d

theorem Rn.imp {E' : Int → Int → Prop} (h : ∀ u v, E u v → E' u v) {n v} (hr : Rn E a n v) : Rn E' a n v := by
  induction n generalizing v with
  | zero => exact hr
  | succ n ih =>
    rcases hr with hr | ⟨u, hr, he⟩
    · exact Or.inl (ih hr)
    · exact Or.inr ⟨u, ih hr, h _ _ he⟩

theorem Dist.congr {E' : Int → Int → Prop} (h : ∀ u v, E u v ↔ E' u v) {v d} : Dist E a v d ↔ Dist E' a v d := by
  have : E = E' := by funext u v; exact propext (h u v)
  rw [this]

/-! ### a right graph out of numbers -/

def fresh (ls : List (Int × Int)) (x y : Int) : Prop := (x, y) ∉ ls ∧ (y, x) ∉ ls

structure Grow (N : Int) (ls : List (Int × Int)) (k : Int) (m : Nat) : Prop where
  ok : ∀ l ∈ ls, okL N l = true
  once : Once ls
  len : ls.length ≤ m
  conn : ∀ v, 0 ≤ v → v < k → ∃ d, Rn (Adj N ls) 0 d v

theorem Grow.start (N : Int) : Grow N [] 1 0 where
  ok := by simp
  once := List.Pairwise.nil
  len := Nat.le_refl _
  conn v h0 h1 := ⟨0, by show v = 0; omega⟩

theorem Adj.app {N ls x y} (l : Int × Int) (h : Adj N ls x y) : Adj N (ls ++ [l]) x y := by
  obtain ⟨m, hm, h⟩ := h; exact ⟨m, List.mem_append_left _ hm, h⟩

theorem Grow.put {N ls k m x y} (h : Grow N ls k m) (hx : 0 ≤ x ∧ x < N) (hy : 0 ≤ y ∧ y < N) (hne : x ≠ y) (hf : fresh ls x y) : Grow N (ls ++ [(x, y)]) k (m + 1) where
  ok l hl := by
    rcases List.mem_append.mp hl with hl | hl
    · exact h.ok l hl
    · rw [List.mem_singleton.mp hl]; exact okL_iff.mpr ⟨hx.1, hx.2, hy.1, hy.2, hne⟩
  once := by
    unfold Once
    rw [List.pairwise_append]
    refine ⟨h.once, by simp, fun l hl v hv => ?_⟩
    rw [List.mem_singleton.mp hv]
    rintro (rfl | rfl)
    · exact hf.1 hl
    · exact hf.2 hl
  len := by simp; exact h.len
  conn v h0 h1 := by
    obtain ⟨d, hd⟩ := h.conn v h0 h1
    exact ⟨d, hd.imp fun u w hA => hA.app _⟩

theorem Grow.more {N ls k m} (h : Grow N ls k m) : Grow N ls k (m + 1) := ⟨h.ok, h.once, Nat.le_succ_of_le h.len, h.conn⟩

theorem Grow.adj_old {N ls k m x y} (h : Grow N ls k m) (hin : (x, y) ∈ ls ∨ (y, x) ∈ ls) : Adj N ls x y := by
  rcases hin with hin | hin
  · exact ⟨_, hin, h.ok _ hin, Or.inl rfl⟩
  · exact ⟨_, hin, h.ok _ hin, Or.inr rfl⟩

theorem Grow.one {N ls k m y} (h : Grow N ls k m) (hA : Adj N ls k y) (hy : y < k) : Grow N ls (k + 1) m where
  ok := h.ok
  once := h.once
  len := h.len
  conn v h0 h1 := by
    by_cases e : v = k
    · subst e
      obtain ⟨d, hd⟩ := h.conn y hA.rng.2.2.1 hy
      exact ⟨d + 1, hd.step hA.symm⟩
    · exact h.conn v h0 (by omega)

theorem Grow.right {N ls m} (h : Grow N ls N m) (h1 : 1 ≤ N) (h2 : N ≤ 64) (hm : m ≤ 200) : Right N ls where
  n1 := h1
  n2 := h2
  len := Nat.le_trans h.len hm
  ok := h.ok
  once := h.once
  conn v h0 h1 := by
    obtain ⟨d, hd⟩ := h.conn v h0 h1
    obtain ⟨e, _, he⟩ := Dist.of_rn hd
    exact ⟨e, he⟩

/-! ### all that are near, together, are the ways -/

def pairsOf (f : Int → List Int) (bs : List Int) : List (Int × Int) := bs.flatMap fun b => (f b).map fun x => (b, x)

theorem rise_pairs {f : Int → List Int} : ∀ {bs : List Int}, bs.Pairwise (· < ·) → (∀ b ∈ bs, (f b).Pairwise (· < ·)) → (pairsOf f bs).Pairwise lexlt
  | [], _, _ => List.Pairwise.nil
  | b :: t, h, hf => by
    have hc := List.pairwise_cons.mp h
    unfold pairsOf
    rw [List.flatMap_cons, List.pairwise_append]
    refine ⟨?_, rise_pairs hc.2 fun x hx => hf x (List.mem_cons_of_mem _ hx), ?_⟩
    · rw [List.pairwise_map]
      exact (hf b (List.mem_cons_self ..)).imp fun h => Or.inr ⟨rfl, h⟩
    · intro u hu v hv
      obtain ⟨x, _, rfl⟩ := List.mem_map.mp hu
      obtain ⟨c, hc', hv⟩ := List.mem_flatMap.mp hv
      obtain ⟨y, _, rfl⟩ := List.mem_map.mp hv
      exact Or.inl (hc.1 c hc')

theorem rise_nums (N : Nat) : (nums N).Pairwise (· < ·) := by
  unfold nums
  rw [List.pairwise_map]
  exact (List.pairwise_lt_range (n := N)).imp fun h => by omega

theorem ways_pairs {N : Nat} {ls l} {f : Int → List Int} (h : IsWays N ls l) (hf : ∀ b : Int, 0 ≤ b → b < N → IsNear N ls b (f b)) : pairsOf f (nums N) = l := by
  refine rise_unique lexlt lexlt_asym _ l (rise_pairs (rise_nums N) fun b hb => (hf b (mem_nums.mp hb).1 (mem_nums.mp hb).2).1) h.1 fun w => ?_
  rw [h.2 w]
  unfold pairsOf
  rw [List.mem_flatMap]
  constructor
  · rintro ⟨b, hb, hw⟩
    obtain ⟨x, hx, rfl⟩ := List.mem_map.mp hw
    exact ((hf b (mem_nums.mp hb).1 (mem_nums.mp hb).2).2 x).mp hx
  · intro hA
    have := hA.rng
    exact ⟨w.1, mem_nums.mpr ⟨this.1, this.2.1⟩, List.mem_map.mpr ⟨w.2, ((hf w.1 this.1 this.2.1).2 w.2).mpr hA, rfl⟩⟩

theorem len_pairs (f : Int → List Int) : ∀ bs : List Int, (pairsOf f bs).length = (bs.map fun b => (f b).length).sum
  | [] => rfl
  | b :: t => by unfold pairsOf; rw [List.flatMap_cons]; simp only [List.length_append, List.length_map, List.map_cons, List.sum_cons]; rw [← len_pairs f t]; rfl

theorem nums_succ (N : Nat) : nums (N + 1) = nums N ++ [(N : Int)] := by simp [nums, List.range_succ]

/-! ### two rows alike -/

/-- the same links, told otherwise. -/
def Alike (ls ls' : List (Int × Int)) : Prop := ∀ l, (l ∈ ls ∨ swap l ∈ ls) ↔ (l ∈ ls' ∨ swap l ∈ ls')

theorem okL_swap {N l} : okL N (swap l) = okL N l := by
  rw [Bool.eq_iff_iff, okL_iff, okL_iff]; unfold swap; simp only; omega

theorem adj_iff {N ls x y} : Adj N ls x y ↔ okL N (x, y) = true ∧ ((x, y) ∈ ls ∨ swap (x, y) ∈ ls) := by
  constructor
  · rintro ⟨l, hl, ho, rfl | rfl⟩
    · exact ⟨ho, Or.inl hl⟩
    · exact ⟨by rw [← okL_swap]; exact ho, Or.inr hl⟩
  · rintro ⟨ho, h | h⟩
    · exact ⟨_, h, ho, Or.inl rfl⟩
    · exact ⟨_, h, by rw [okL_swap]; exact ho, Or.inr rfl⟩

theorem Alike.adj {N ls ls'} (h : Alike ls ls') (x y : Int) : Adj N ls x y ↔ Adj N ls' x y := by
  rw [adj_iff, adj_iff, h (x, y)]

/-! ### Check -/

/-- link number i does wrong. -/
def Odd (N : Int) (ls : List (Int × Int)) (i : Nat) : Prop := ∃ l, ls[i]? = some l ∧ (okL N l = false ∨ ∃ m ∈ ls.take i, m = l ∨ m = swap l)

theorem noOdd_iff {N ls} : (∀ i, ¬ Odd N ls i) ↔ (∀ l ∈ ls, okL N l = true) ∧ Once ls := by
  constructor
  · intro h
    refine ⟨fun l hl => ?_, ?_⟩
    · obtain ⟨i, hi⟩ := List.mem_iff_getElem?.mp hl
      cases ho : okL N l with
      | true => rfl
      | false => exact absurd ⟨l, hi, Or.inl ho⟩ (h i)
    · unfold Once
      rw [List.pairwise_iff_getElem]
      intro i j hi hj hij hc
      exact h j ⟨ls[j], List.getElem?_eq_getElem hj, Or.inr ⟨ls[i], List.mem_take_iff_getElem.mpr ⟨i, by omega, rfl⟩, hc⟩⟩
  · rintro ⟨h1, h2⟩ i ⟨l, hl, ho⟩
    rcases ho with ho | ⟨m, hm, hc⟩
    · rw [h1 l (List.mem_of_getElem? hl)] at ho; cases ho
    · obtain ⟨j, hj, rfl⟩ := List.mem_take_iff_getElem.mp hm
      obtain ⟨hi, rfl⟩ := List.getElem?_eq_some_iff.mp hl
      unfold Once at h2
      rw [List.pairwise_iff_getElem] at h2
      exact h2 j i (by omega) hi (by omega) hc

/-- what Check tells: none where the graph may be; else where it does wrong. -/
def Told (N : Int) (ls : List (Int × Int)) (r : Option Int) : Prop :=
  (r = none ∧ Right N ls) ∨ (∃ i : Nat, r = some (i : Int) ∧ Odd N ls i ∧ ∀ j, j < i → ¬ Odd N ls j) ∨ (r = some (-1) ∧ (∀ i, ¬ Odd N ls i) ∧ ¬ Right N ls)

theorem Told.right {N ls r} (h : Told N ls r) : r = none ↔ Right N ls := by
  rcases h with ⟨h, hr⟩ | ⟨i, h, ho, _⟩ | ⟨h, _, hr⟩
  · exact ⟨fun _ => hr, fun _ => h⟩
  · refine ⟨fun e => (by rw [h] at e; cases e), fun hr => ?_⟩
    exact absurd ho (noOdd_iff.mpr ⟨hr.ok, hr.once⟩ i)
  · exact ⟨fun e => (by rw [h] at e; cases e), fun h => absurd h hr⟩

theorem Told.uniq {N ls r r'} (h : Told N ls r) (h' : Told N ls r') : r = r' := by
  rcases h with ⟨h, hr⟩ | ⟨i, h, ho, hb⟩ | ⟨h, hn, hr⟩
  · rw [h, (h'.right).mpr hr]
  · rcases h' with ⟨h', hr'⟩ | ⟨i', h', ho', hb'⟩ | ⟨h', hn', hr'⟩
    · exact absurd ho (noOdd_iff.mpr ⟨hr'.ok, hr'.once⟩ i)
    · have : i = i' := by
        rcases Nat.lt_trichotomy i i' with hl | e | hl
        · exact absurd ho (hb' i hl)
        · exact e
        · exact absurd ho' (hb i' hl)
      rw [h, h', this]
    · exact absurd ho (hn' i)
  · rcases h' with ⟨h', hr'⟩ | ⟨i', h', ho', hb'⟩ | ⟨h', hn', hr'⟩
    · exact absurd hr' hr
    · exact absurd ho' (hn i')
    · rw [h, h']

/-- reach's row, of a graph whose links are all right. -/
theorem right_iff {N : Nat} {ls : List (Int × Int)} (hno : ∀ i, ¬ Odd N ls i) : Right N ls ↔ 1 ≤ N ∧ N ≤ 64 ∧ ls.length ≤ 200 ∧ ∀ v : Int, 0 ≤ v → v < N → ∃ d, Dist (Adj N ls) 0 v d := by
  obtain ⟨h1, h2⟩ := noOdd_iff.mp hno
  constructor
  · intro h
    have := h.n1; have := h.n2
    exact ⟨by omega, by omega, h.len, h.conn⟩
  · rintro ⟨a, b, c, d⟩
    exact ⟨by omega, by omega, c, h1, h2, d⟩

/-! ### Far -/

def isB (N b : Int) : Bool := decide (0 ≤ b) && decide (b < N)

theorem isB_iff {N b} : isB N b = true ↔ 0 ≤ b ∧ b < N := by unfold isB; simp

def FarIs (N : Int) (ls : List (Int × Int)) (x y r : Int) : Prop :=
  ((isB N x && isB N y) = true ∧ ((∃ d : Nat, Dist (Adj N ls) x y d ∧ r = d) ∨ ((∀ d, ¬ Dist (Adj N ls) x y d) ∧ r = -1))) ∨ ((isB N x && isB N y) = false ∧ r = -1)

theorem Right.dist {N ls} (h : Right N ls) {x y : Int} (hx : 0 ≤ x ∧ x < N) (hy : 0 ≤ y ∧ y < N) : ∃ d, Dist (Adj N ls) x y d := by
  obtain ⟨d, hd⟩ := h.conn x hx.1 hx.2
  obtain ⟨e, he⟩ := h.conn y hy.1 hy.2
  have h1 := (hd.1.symm fun _ _ h => Adj.symm h).trans he.1
  obtain ⟨k, _, hk⟩ := Dist.of_rn h1
  exact ⟨k, hk⟩

theorem Right.far {N ls r} (h : Right N ls) {x y : Int} (hx : 0 ≤ x ∧ x < N) (hy : 0 ≤ y ∧ y < N) (hf : FarIs N ls x y r) : ∃ d : Nat, Dist (Adj N ls) x y d ∧ r = d := by
  rcases hf with ⟨_, hf | ⟨hno, _⟩⟩ | ⟨hb, _⟩
  · exact hf
  · obtain ⟨d, hd⟩ := h.dist hx hy
    exact absurd hd (hno d)
  · rw [isB_iff.mpr hx, isB_iff.mpr hy] at hb; cases hb

theorem FarIs.out {N ls x y r} (hf : FarIs N ls x y r) (h : ¬ (0 ≤ x ∧ x < N) ∨ ¬ (0 ≤ y ∧ y < N)) : r = -1 := by
  rcases hf with ⟨hb, _⟩ | ⟨_, hf⟩
  · simp only [Bool.and_eq_true, isB_iff] at hb
    rcases h with h | h
    · exact absurd hb.1 h
    · exact absurd hb.2 h
  · exact hf

theorem Dist.one {v : Int} : Dist E a v 1 ↔ E a v ∧ v ≠ a := by
  constructor
  · intro h
    obtain ⟨u, hu, he⟩ := h.pred
    have : u = a := hu.zero
    subst this
    exact ⟨he, fun e => h.2 0 (by omega) e⟩
  · rintro ⟨he, hne⟩
    refine ⟨Or.inr ⟨a, rfl, he⟩, fun m hm hr => ?_⟩
    have : m = 0 := by omega
    subst this
    exact hne hr

theorem Dist.tri {v u : Int} {d e k : Nat} (h : Dist E a v d) (h1 : Dist E a u e) (h2 : Dist E u v k) : d ≤ e + k := h.le (h1.1.trans h2.1)

/-- a step changes how far by one at most. -/
theorem Dist.near {u v : Int} {d e : Nat} (h1 : Dist E u a d) (h2 : Dist E v a e) (he : E u v) : d ≤ e + 1 := by
  have h : Rn E u 1 v := Or.inr ⟨u, rfl, he⟩
  have := h1.le (h.trans h2.1)
  omega

theorem far_law {N : Int} {ls : List (Int × Int)} (h : Right N ls) {x y z dxy dyx dxz dzy dout dneg : Int} (hx : 0 ≤ x ∧ x < N) (hy : 0 ≤ y ∧ y < N) (hz : 0 ≤ z ∧ z < N)
    (h1 : FarIs N ls x y dxy) (h2 : FarIs N ls y x dyx) (h3 : FarIs N ls x z dxz) (h4 : FarIs N ls z y dzy) (h5 : FarIs N ls x N dout) (h6 : FarIs N ls (-1) x dneg) :
    dxy = dyx ∧ (dxy = 0 ↔ x = y) ∧ (dxy = 1 ↔ Adj N ls x y) ∧ dxy ≤ dxz + dzy ∧ dxy < N ∧ dout = -1 ∧ dneg = -1 := by
  obtain ⟨d1, hd1, rfl⟩ := h.far hx hy h1
  obtain ⟨d2, hd2, rfl⟩ := h.far hy hx h2
  obtain ⟨d3, hd3, rfl⟩ := h.far hx hz h3
  obtain ⟨d4, hd4, rfl⟩ := h.far hz hy h4
  refine ⟨?_, ?_, ?_, ?_, ?_, h5.out (Or.inr (by omega)), h6.out (Or.inl (by omega))⟩
  · rw [hd1.uniq (hd2.symm fun _ _ h => Adj.symm h)]
  · constructor
    · intro e
      have : d1 = 0 := by omega
      subst this
      exact hd1.zero.symm
    · rintro rfl
      rw [hd1.uniq Dist.self]; rfl
  · constructor
    · intro e
      have : d1 = 1 := by omega
      subst this
      exact (Dist.one.mp hd1).1
    · intro hA
      rw [hd1.uniq (Dist.one.mpr ⟨hA, fun e => hA.rng.2.2.2.2 e.symm⟩)]; rfl
  · have := hd1.tri hd3 hd4
    omega
  · obtain ⟨n, rfl⟩ : ∃ n : Nat, N = n := ⟨N.toNat, by omega⟩
    have := hd1.lt (N := n) (fun u v hA => ⟨hA.rng.2.2.1, hA.rng.2.2.2.1⟩) hx
    omega

/-! ### what goes wrong -/

theorem bad_insert {N : Int} {ls : List (Int × Int)} (h : Right N ls) {x : Int × Int} (hx : okL N x = false) {i : Nat} (hi : i ≤ ls.length) : Told N (ls.take i ++ x :: ls.drop i) (some (i : Int)) := by
  have hl : (ls.take i).length = i := by rw [List.length_take]; omega
  refine Or.inr (Or.inl ⟨i, rfl, ⟨x, ?_, Or.inl hx⟩, fun j hj => ?_⟩)
  · rw [List.getElem?_append_right (by omega), hl, Nat.sub_self]; rfl
  · rintro ⟨l, hl', ho⟩
    refine noOdd_iff.mpr ⟨h.ok, h.once⟩ j ⟨l, ?_, ?_⟩
    · rw [List.getElem?_append_left (by omega), List.getElem?_take_of_lt hj] at hl'
      exact hl'
    · rcases ho with ho | ⟨m, hm, hc⟩
      · exact Or.inl ho
      · refine Or.inr ⟨m, ?_, hc⟩
        rw [List.take_append_of_le_length (by omega), List.take_take, Nat.min_eq_left (by omega)] at hm
        exact hm

theorem bad_twice {N : Int} {ls : List (Int × Int)} (h : Right N ls) {l : Int × Int} (hl : l ∈ ls) : Told N (ls ++ [swap l]) (some (ls.length : Int)) := by
  refine Or.inr (Or.inl ⟨ls.length, rfl, ⟨swap l, ?_, Or.inr ⟨l, ?_, Or.inr (by simp [swap])⟩⟩, fun j hj => ?_⟩)
  · rw [List.getElem?_append_right (Nat.le_refl _), Nat.sub_self]; rfl
  · rw [List.take_append_of_le_length (Nat.le_refl _), List.take_length]; exact hl
  · rintro ⟨m, hm, ho⟩
    refine noOdd_iff.mpr ⟨h.ok, h.once⟩ j ⟨m, ?_, ?_⟩
    · rw [List.getElem?_append_left hj] at hm; exact hm
    · rcases ho with ho | ⟨x, hx, hc⟩
      · exact Or.inl ho
      · refine Or.inr ⟨x, ?_, hc⟩
        rw [List.take_append_of_le_length (by omega)] at hx
        exact hx

theorem okL_up {N : Int} {l : Int × Int} (h : okL N l = true) : okL (N + 1) l = true := by
  rw [okL_iff] at *; omega

theorem bad_alone {N : Int} {ls : List (Int × Int)} (h : Right N ls) : Told (N + 1) ls (some (-1)) := by
  refine Or.inr (Or.inr ⟨rfl, noOdd_iff.mpr ⟨fun l hl => okL_up (h.ok l hl), h.once⟩, fun h' => ?_⟩)
  have := h.n1
  obtain ⟨d, hd⟩ := h'.conn N (by omega) (by omega)
  cases d with
  | zero => have := hd.zero; omega
  | succ d =>
    obtain ⟨u, _, l, hl, _, hc⟩ := hd.pred
    have := okL_iff.mp (h.ok l hl)
    rcases hc with rfl | rfl <;> simp only at this <;> omega

/-! ### the order in which links are told -/

theorem once_symm : ∀ {l m : Int × Int}, ¬ (l = m ∨ l = swap m) → ¬ (m = l ∨ m = swap l) := by
  intro l m h hc
  refine h ?_
  rcases hc with e | e
  · exact Or.inl e.symm
  · exact Or.inr (by rw [e]; simp [swap])

theorem turned_perm {ls : List (Int × Int)} {n : Nat} {l : Int × Int} (hl : ls[n]? = some l) : (l :: (ls.take n ++ ls.drop (n + 1))).Perm ls := by
  obtain ⟨hn, rfl⟩ := List.getElem?_eq_some_iff.mp hl
  have e : ls = ls.take n ++ ls[n] :: ls.drop (n + 1) := by
    rw [← List.drop_eq_getElem_cons hn, List.take_append_drop]
  conv => rhs; rw [e]
  exact (List.perm_middle).symm

theorem turned {N : Int} {ls : List (Int × Int)} (h : Right N ls) {n : Nat} {l : Int × Int} (hl : ls[n]? = some l) :
    Right N (swap l :: (ls.take n ++ ls.drop (n + 1))) ∧ Alike ls (swap l :: (ls.take n ++ ls.drop (n + 1))) := by
  have hp := turned_perm hl
  generalize ls.take n ++ ls.drop (n + 1) = t at hp
  have hA : Alike ls (swap l :: t) := by
    intro x
    rw [← hp.mem_iff, ← hp.mem_iff]
    have e1 : x = l ↔ swap x = swap l := by
      constructor
      · rintro rfl; rfl
      · intro h; unfold swap at h; rw [Prod.mk.injEq] at h; exact Prod.ext h.2 h.1
    have e2 : swap x = l ↔ x = swap l := by
      constructor
      · rintro rfl; simp [swap]
      · rintro rfl; simp [swap]
    simp only [List.mem_cons]
    rw [e2, e1]
    constructor
    · rintro ((h | h) | (h | h))
      · exact Or.inr (Or.inl h)
      · exact Or.inl (Or.inr h)
      · exact Or.inl (Or.inl h)
      · exact Or.inr (Or.inr h)
    · rintro ((h | h) | (h | h))
      · exact Or.inr (Or.inl h)
      · exact Or.inl (Or.inr h)
      · exact Or.inl (Or.inl h)
      · exact Or.inr (Or.inr h)
  have ho : Once (l :: t) := (hp.pairwise_iff fun h => once_symm h).mpr h.once
  have hc := List.pairwise_cons.mp ho
  refine ⟨⟨h.n1, h.n2, ?_, ?_, ?_, ?_⟩, hA⟩
  · have := hp.length_eq; have := h.len; simp only [List.length_cons] at *; omega
  · intro x hx
    rcases List.mem_cons.mp hx with rfl | hx
    · rw [okL_swap]; exact h.ok l (hp.mem_iff.mp (List.mem_cons_self ..))
    · exact h.ok x (hp.mem_iff.mp (List.mem_cons_of_mem _ hx))
  · refine List.pairwise_cons.mpr ⟨fun x hx hcx => hc.1 x hx ?_, hc.2⟩
    rcases hcx with e | e
    · exact Or.inr (by rw [← e]; simp [swap])
    · refine Or.inl ?_
      unfold swap at e; rw [Prod.mk.injEq] at e; exact Prod.ext e.2 e.1
  · intro v h0 h1
    obtain ⟨d, hd⟩ := h.conn v h0 h1
    exact ⟨d, (Dist.congr fun u w => hA.adj u w).mp hd⟩

theorem Alike.trans {l1 l2 l3 : List (Int × Int)} (h : Alike l1 l2) (h' : Alike l2 l3) : Alike l1 l3 := fun l => (h l).trans (h' l)

/-! ### ways and how far -/

theorem step_law {N : Int} {ls : List (Int × Int)} (h : Right N ls) {u v to x y : Int} (hA : Adj N ls u v) (ht : 0 ≤ to ∧ to < N) (h1 : FarIs N ls u to x) (h2 : FarIs N ls v to y) :
    0 ≤ x ∧ 0 ≤ y ∧ x - y ≤ 1 ∧ y - x ≤ 1 := by
  have hr := hA.rng
  obtain ⟨d, hd, rfl⟩ := h.far ⟨hr.1, hr.2.1⟩ ht h1
  obtain ⟨e, he, rfl⟩ := h.far ⟨hr.2.2.1, hr.2.2.2.1⟩ ht h2
  have e1 := hd.near he hA
  have e2 := he.near hd hA.symm
  omega

end Go.Proofs.YtfkkefhijhjaaaaDoor.Gr
namespace Go.Proofs.YtfkkefhijhjaaaaDoor.Gr
open Go.Lib

theorem compact_rise {α : Type} [DecidableEq α] [Inhabited α] (lt : α → α → Prop) (irr : ∀ a, ¬ lt a a) (tr : ∀ a b c, lt a b → lt b c → lt a c) (d : Array α)
    (hs : ∀ i j, i < j → j < d.size → lt d[i]! d[j]! ∨ d[i]! = d[j]!) : ∀ m, m ≤ d.size → (compactUpTo d m).Pairwise lt ∧ ∀ x, x ∈ compactUpTo d m ↔ ∃ i, i < m ∧ d[i]! = x := by
  intro m
  induction m with
  | zero => intro _; exact ⟨List.Pairwise.nil, fun x => ⟨fun h => by simp [compactUpTo] at h, fun ⟨i, hi, _⟩ => absurd hi (Nat.not_lt_zero _)⟩⟩
  | succ m ih =>
    intro hm
    obtain ⟨h1, h2⟩ := ih (by omega)
    rw [compactUpTo_succ]
    by_cases hk : keeps d m = true
    · rw [if_pos hk]
      refine ⟨?_, fun x => ?_⟩
      · rw [List.pairwise_append]
        refine ⟨h1, by simp, fun x hx y hy => ?_⟩
        rw [List.mem_singleton.mp hy]
        obtain ⟨i, hi, rfl⟩ := (h2 x).mp hx
        rcases hs i m hi (by omega) with h | h
        · exact h
        · exfalso
          have hne : d[m]! ≠ d[m - 1]! := by
            unfold keeps at hk
            have := of_decide_eq_true hk
            rcases this with h0 | h0
            · omega
            · exact h0
          by_cases him : i = m - 1
          · subst him; exact hne h.symm
          · have ha := hs i (m - 1) (by omega) (by omega)
            have hb := hs (m - 1) m (by omega) (by omega)
            rcases hb with hb | hb
            · rcases ha with ha | ha
              · have := tr _ _ _ ha hb; rw [h] at this; exact irr _ this
              · rw [← ha, h] at hb; exact irr _ hb
            · exact hne hb.symm
      · rw [List.mem_append, h2 x, List.mem_singleton]
        constructor
        · rintro (⟨i, hi, h⟩ | h)
          · exact ⟨i, by omega, h⟩
          · exact ⟨m, by omega, h.symm⟩
        · rintro ⟨i, hi, h⟩
          by_cases e : i = m
          · subst e; exact Or.inr h.symm
          · exact Or.inl ⟨i, by omega, h⟩
    · rw [if_neg hk, List.append_nil]
      refine ⟨h1, fun x => ?_⟩
      rw [h2 x]
      have hkk : 0 < m ∧ d[m]! = d[m - 1]! := by
        unfold keeps at hk
        have := fun h => hk (decide_eq_true h)
        refine ⟨Nat.pos_of_ne_zero fun e => this (Or.inl e), Decidable.byContradiction fun e => this (Or.inr e)⟩
      constructor
      · rintro ⟨i, hi, h⟩; exact ⟨i, by omega, h⟩
      · rintro ⟨i, hi, h⟩
        by_cases e : i = m
        · subst e; exact ⟨i - 1, by omega, by rw [← hkk.2]; exact h⟩
        · exact ⟨i, by omega, h⟩

theorem get!_toArray {α : Type} [Inhabited α] (l : List α) (i : Nat) (h : i < l.length) : l.toArray[i]! = l[i] := by
  rw [getElem!_pos l.toArray i (by simpa using h)]
  simp

theorem compact_of_le {α : Type} [DecidableEq α] [Inhabited α] (lt : α → α → Prop) (irr : ∀ a, ¬ lt a a) (tr : ∀ a b c, lt a b → lt b c → lt a c) (l : List α)
    (hs : l.Pairwise fun a b => lt a b ∨ a = b) : (compact l).Pairwise lt ∧ ∀ x, x ∈ compact l ↔ x ∈ l := by
  have h := compact_rise lt irr tr l.toArray (fun i j hij hj => by
    have hj' : j < l.length := by simpa using hj
    rw [get!_toArray l i (by omega), get!_toArray l j hj']
    exact (List.pairwise_iff_getElem.mp hs) i j (by omega) hj' hij) l.length (by simp)
  refine ⟨h.1, fun x => (h.2 x).trans ?_⟩
  constructor
  · rintro ⟨i, hi, e⟩
    rw [get!_toArray l i hi] at e
    rw [← e]; exact List.getElem_mem hi
  · intro hx
    obtain ⟨i, hi, e⟩ := List.mem_iff_getElem.mp hx
    exact ⟨i, hi, by rw [get!_toArray l i hi]; exact e⟩

theorem compact_sort_int (l : List Int) : (compact (l.mergeSort fun x y => decide (x ≤ y))).Pairwise (· < ·) ∧ ∀ x, x ∈ compact (l.mergeSort fun x y => decide (x ≤ y)) ↔ x ∈ l := by
  have hs := List.pairwise_mergeSort (le := fun x y : Int => decide (x ≤ y)) (by intro a b c; simp; omega) (by intro a b; simp; omega) l
  have h := compact_of_le (· < · : Int → Int → Prop) (fun a => Int.lt_irrefl a) (fun a b c => Int.lt_trans) _ (hs.imp fun {a b} h => by
    have := of_decide_eq_true h; omega)
  exact ⟨h.1, fun x => (h.2 x).trans (List.mergeSort_perm l _).mem_iff⟩

end Go.Proofs.YtfkkefhijhjaaaaDoor.Gr
