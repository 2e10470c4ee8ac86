import Derived.Test.YtgdieejhglhkcaaGreatDoorTuP
namespace Go.Proofs.YtgdieejhglhkcaaGreatDoor.MTup
open Go.RowKit Go.Lib Go.Proofs.YtgdieejhglhkcaaGreatDoorW.PrintWords Go.Proofs.YtgdieejhglhkcaaGreatDoorW.PrintLast Go.Proofs.YtgdieejhglhkcaaGreatDoorW.PrintMore
set_option linter.unusedVariables false
set_option linter.unusedSimpArgs false
def sayV (v : S23) : ByteArray := if v.f0 = true then Val.quote v.f2 else Val.itoa v.f1
def item (x : S25) : ByteArray := ((x.f0 ++ (⟨#[61]⟩ : ByteArray)) ++ sayV x.f1)
theorem say_ok : ∀ v ∈ smpV, value_Say.f v.f0 v.f1 v.f2 = some (sayV v) := by
  have h : (smpV.all fun v => match value_Say.f v.f0 v.f1 v.f2 with | some b => b.data.toList == (sayV v).data.toList | none => false) = true := by kernel_rfl
  intro v hv
  have h1 := List.all_eq_true.1 h v hv
  split at h1
  · rename_i b hb
    rw [hb, show b = sayV v from ByteArray.ext (Array.ext' (by simpa using h1))]
  · cases h1
theorem say_size : ∀ v ∈ smpV, (sayV v).size ≤ 20 := by
  have h : (smpV.all fun v => decide ((sayV v).size ≤ 20)) = true := by kernel_rfl
  exact fun v hv => by simpa using List.all_eq_true.1 h v hv
theorem say_comma : ∀ v ∈ smpV, (44 : UInt8) ∉ (sayV v).data.toList := by
  have h : (smpV.all fun v => !(sayV v).data.toList.contains 44) = true := by kernel_rfl
  exact fun v hv => by simpa using List.all_eq_true.1 h v hv
theorem say_inj : ∀ v ∈ smpV, ∀ u ∈ smpV, (sayV v).data.toList = (sayV u).data.toList → v = u := by
  have h : (smpV.all fun v => smpV.all fun u => !((sayV v).data.toList == (sayV u).data.toList) || (v.f0 == u.f0 && (v.f1 == u.f1 && v.f2.data.toList == u.f2.data.toList))) = true := by kernel_rfl
  intro v hv u hu e
  have h1 := List.all_eq_true.1 (List.all_eq_true.1 h v hv) u hu
  rw [e] at h1
  simp only [BEq.rfl, Bool.not_true, Bool.false_or, Bool.and_eq_true, beq_iff_eq] at h1
  obtain ⟨a, b, c⟩ := v
  obtain ⟨a', b', c'⟩ := u
  obtain ⟨h2, h3, h4⟩ := h1
  simp only at h2 h3 h4
  subst h2 h3
  rw [show c = c' from ByteArray.ext (Array.ext' h4)]
theorem nm_facts : ∀ s ∈ nms, s.data.toList.length = 1 ∧ (44 : UInt8) ∉ s.data.toList := by
  have h : (nms.all fun s => s.data.toList.length == 1 && !s.data.toList.contains 44) = true := by kernel_rfl
  exact fun v hv => by simpa using List.all_eq_true.1 h v hv
theorem item_list (x : S25) : (item x).data.toList = x.f0.data.toList ++ (61 :: (sayV x.f1).data.toList) := by
  unfold item
  simp [ByteArray.data_append]
theorem item_inj {x y : S25} (hx : x.f0 ∈ nms) (hy : y.f0 ∈ nms) (vx : x.f1 ∈ smpV) (vy : y.f1 ∈ smpV) (h : (item x).data.toList = (item y).data.toList) : x = y := by
  rw [item_list, item_list] at h
  have h1 := (nm_facts _ hx).1
  have h2 := (nm_facts _ hy).1
  obtain ⟨e1, e2⟩ := List.append_inj h (by rw [h1, h2])
  have e3 := say_inj _ vx _ vy (List.cons.inj e2).2
  obtain ⟨a, b⟩ := x
  obtain ⟨c, d⟩ := y
  simp only at e1 e3
  rw [e3, show a = c from ByteArray.ext (Array.ext' e1)]
theorem item_comma {x : S25} (hx : x.f0 ∈ nms) (vx : x.f1 ∈ smpV) : (44 : UInt8) ∉ (item x).data.toList ∧ (item x).data.toList ≠ [] := by
  rw [item_list]
  refine ⟨fun h => ?_, by simp⟩
  rcases List.mem_append.1 h with h | h
  · exact (nm_facts _ hx).2 h
  · rcases List.mem_cons.1 h with h | h
    · exact absurd h (by decide)
    · exact say_comma _ vx h
def sayT (l : List S25) : ByteArray := ⟨(Go.Lib.join ((l.map item).map (·.data.toList)) [44]).toArray⟩
theorem item_len {x : S25} (hx : x.f0 ∈ nms) (vx : x.f1 ∈ smpV) : (item x).data.toList.length ≤ 22 := by
  rw [item_list, List.length_append, List.length_cons, (nm_facts _ hx).1]
  have := say_size _ vx
  rw [Array.length_toList]
  have h2 : (sayV x.f1).data.size = (sayV x.f1).size := rfl
  omega
theorem lens_le (n : Nat) : ∀ xs : List (List UInt8), (∀ x ∈ xs, x.length ≤ n) → Go.Lib.lens xs ≤ xs.length * n
  | [], _ => by simp [Go.Lib.lens]
  | x :: r, h => by
    have h1 := h x (by simp)
    have h2 := lens_le n r (fun y hy => h y (by simp [hy]))
    have : Go.Lib.lens (x :: r) = x.length + Go.Lib.lens r := by simp [Go.Lib.lens]
    rw [this, List.length_cons, Nat.succ_mul]
    omega
theorem join_f (l : List S25) (hT : TN l) : strings_Join.f (l.map item) (⟨#[44]⟩ : ByteArray) = some (sayT l) := by
  unfold strings_Join.f
  have hlen := hT.len
  have hj : (Go.Lib.join ((l.map item).map (·.data.toList)) (⟨#[44]⟩ : ByteArray).data.toList).length ≤ 100000 := by
    cases l with
    | nil => simp [Go.Lib.join_nil]
    | cons x t =>
      rw [List.map_cons, List.map_cons, Go.Lib.join_length]
      have := lens_le 22 ((item x).data.toList :: ((t.map item).map (·.data.toList))) (fun y hy => by
        have hy2 : y ∈ (((x :: t).map item).map (·.data.toList)) := hy
        obtain ⟨z, hz, rfl⟩ := List.mem_map.1 hy2
        obtain ⟨q, hq, rfl⟩ := List.mem_map.1 hz
        exact item_len (hT.name q hq) (hT.val q hq))
      simp only [List.length_cons, List.length_map, List.length_nil] at this hlen ⊢
      omega
  rw [if_pos hj, if_pos (by simp; omega)]
  rfl
theorem say_l0 (l : List S25) (hT : TN l) : ∀ (d i k : Nat) (acc : List ByteArray), i + d = l.length → d + 1 ≤ k → acc.length = i →
    tuple_Say.l0 k acc l l.length i = (strings_Join.f (acc ++ (l.drop i).map item) (⟨#[44]⟩ : ByteArray)).bind fun t => some t
  | 0, i, k, acc, h, hk, ha => by
    obtain ⟨k, rfl⟩ : ∃ q, k = q + 1 := ⟨k - 1, by omega⟩
    rw [tuple_Say.l0, if_neg (by omega), List.drop_of_length_le (by omega), List.map_nil, List.append_nil]
  | d + 1, i, k, acc, h, hk, ha => by
    obtain ⟨k, rfl⟩ : ∃ q, k = q + 1 := ⟨k - 1, by omega⟩
    have hm := getD_mem25 l i (by omega)
    have h5 := hT.len
    have hn := (nm_facts _ (hT.name _ hm)).1
    have hn2 : (l.getD i z25).f0.size = 1 := hn
    have hs := say_size _ (hT.val _ hm)
    have ih := say_l0 l hT d (i + 1) k (acc ++ [item (l.getD i z25)]) (by omega) (by omega) (by simp [ha])
    rw [tuple_Say.l0, if_pos (by omega), if_pos (by omega), if_pos (by omega), rd25, if_pos (by omega), say_ok _ (hT.val _ hm)]
    simp only [Option.bind_some]
    rw [if_pos (by rw [ByteArray.size_append, hn2]; show 1 + 1 + _ ≤ _; omega), if_pos (by omega), wrap_nat i (by omega)]
    rw [show acc ++ [(l.getD i z25).f0 ++ (⟨#[61]⟩ : ByteArray) ++ sayV (l.getD i z25).f1] = acc ++ [item (l.getD i z25)] from rfl, ih, drop25 l i (by omega), List.map_cons, List.append_assoc]
    rfl
theorem say_char (l : List S25) (hT : TN l) (k : Nat) (hk : 10 ≤ k) : tuple_Say.f k l = some (sayT l) := by
  have := say_l0 l hT l.length 0 k [] (by omega) (by have := hT.len; omega) rfl
  rw [List.drop_zero, List.nil_append, join_f l hT, Option.bind_some] at this
  exact this
theorem map_inj {l m : List S25} (hl : TN l) (hm : TN m) : ∀ {a b : List S25}, (∀ x ∈ a, x ∈ l) → (∀ x ∈ b, x ∈ m) → (a.map item).map (·.data.toList) = (b.map item).map (·.data.toList) → a = b
  | [], [], _, _, _ => rfl
  | [], y :: t, _, _, h => by simp at h
  | x :: t, [], _, _, h => by simp at h
  | x :: t, y :: u, ha, hb, h => by
    simp only [List.map_cons, List.cons.injEq] at h
    have hx := ha x (by simp)
    have hy := hb y (by simp)
    rw [item_inj (hl.name x hx) (hm.name y hy) (hl.val x hx) (hm.val y hy) h.1, map_inj hl hm (fun z hz => ha z (by simp [hz])) (fun z hz => hb z (by simp [hz])) h.2]
theorem sayT_inj {l m : List S25} (hl : TN l) (hm : TN m) (h : (sayT l).toList = (sayT m).toList) : l = m := by
  have h2 := toList_inj h
  unfold sayT at h2
  simp only [ByteArray.mk.injEq] at h2
  have h3 := congrArg Array.toList h2
  simp only at h3
  refine map_inj hl hm (fun x hx => hx) (fun x hx => hx) (join_inj (s := 44) _ _ (fun x hx => ?_) (fun x hx => ?_) h3)
  · obtain ⟨z, hz, rfl⟩ := List.mem_map.1 hx
    obtain ⟨q, hq, rfl⟩ := List.mem_map.1 hz
    exact item_comma (hl.name q hq) (hl.val q hq)
  · obtain ⟨z, hz, rfl⟩ := List.mem_map.1 hx
    obtain ⟨q, hq, rfl⟩ := List.mem_map.1 hz
    exact item_comma (hm.name q hq) (hm.val q hq)
end Go.Proofs.YtgdieejhglhkcaaGreatDoor.MTup
