/- Configurations: what changes do, in lists. -/
import Derived.Test.YtnocnhdhlibmpaaC11
set_option linter.unusedVariables false
set_option linter.unusedSimpArgs false
namespace Go.Proofs.Ytnocnhdhlibmpaa.C
theorem srt_ext : ∀ {l m : List Int}, l.Pairwise (· < ·) → m.Pairwise (· < ·) → (∀ x, x ∈ l ↔ x ∈ m) → l = m
  | [], [], _, _, _ => rfl
  | [], y :: m, _, _, h => by have := (h y).2 (by simp); simp at this
  | x :: l, [], _, _, h => by have := (h x).1 (by simp); simp at this
  | x :: l, y :: m, hl, hm, h => by
    obtain ⟨h1, h2⟩ := List.pairwise_cons.1 hl
    obtain ⟨h3, h4⟩ := List.pairwise_cons.1 hm
    have hxy : x = y := by
      rcases List.mem_cons.1 ((h x).1 (by simp)) with e | e
      · exact e
      rcases List.mem_cons.1 ((h y).2 (by simp)) with e2 | e2
      · exact e2.symm
      have := h1 y e2; have := h3 x e; omega
    subst hxy
    rw [srt_ext h2 h4 fun z => ⟨fun hz => by
      rcases List.mem_cons.1 ((h z).1 (by simp [hz])) with e | e
      · have := h1 z hz; omega
      · exact e, fun hz => by
      rcases List.mem_cons.1 ((h z).2 (by simp [hz])) with e | e
      · have := h3 z hz; omega
      · exact e⟩]
theorem lessN_split : ∀ (l : List Int) (n : Int), l.Pairwise (· < ·) → (∀ x ∈ l.take (lessN l n), x < n) ∧ (∀ x ∈ l.drop (lessN l n), n ≤ x)
  | [], n, _ => by simp
  | x :: r, n, h => by
    obtain ⟨h1, h2⟩ := List.pairwise_cons.1 h
    obtain ⟨h3, h4⟩ := lessN_split r n h2
    by_cases hx : x < n
    · have e : lessN (x :: r) n = lessN r n + 1 := by simp [lessN, hx]
      rw [e]
      simp only [List.take_succ_cons, List.drop_succ_cons]
      exact ⟨fun y hy => by
        rcases List.mem_cons.1 hy with rfl | hy
        · exact hx
        · exact h3 y hy, h4⟩
    · have e : lessN (x :: r) n = 0 := by
        simp only [lessN, List.length_eq_zero_iff, List.filter_eq_nil_iff]
        intro y hy
        rcases List.mem_cons.1 hy with rfl | hy
        · simpa using hx
        · have := h1 y hy; simp; omega
      rw [e]
      simp only [List.take_zero, List.drop_zero]
      exact ⟨fun y hy => by simp at hy, fun y hy => by
        rcases List.mem_cons.1 hy with rfl | hy
        · omega
        · have := h1 y hy; omega⟩
theorem mem_ins {l : List Int} {n x : Int} : x ∈ ins l n ↔ x = n ∨ x ∈ l := by
  unfold ins
  conv => rhs; rw [← List.take_append_drop (lessN l n) l]
  simp only [List.mem_append, List.mem_cons]
  constructor
  · rintro (h | h | h) <;> simp [h]
  · rintro (h | h | h) <;> simp [h]
theorem ins_srt {l : List Int} {n : Int} (h : l.Pairwise (· < ·)) (hn : n ∉ l) : (ins l n).Pairwise (· < ·) := by
  obtain ⟨h1, h2⟩ := lessN_split l n h
  unfold ins
  have h0 := h
  rw [← List.take_append_drop (lessN l n) l, List.pairwise_append] at h0
  obtain ⟨a, b, c⟩ := h0
  have h3 : ∀ x ∈ l.drop (lessN l n), n < x := fun x hx => by
    have := h2 x hx
    have : x ≠ n := fun e => hn (e ▸ List.mem_of_mem_drop hx)
    omega
  rw [List.pairwise_append, List.pairwise_cons]
  refine ⟨a, ⟨h3, b⟩, fun x hx y hy => ?_⟩
  rcases List.mem_cons.1 hy with rfl | hy
  · exact h1 x hx
  · exact c x hx y hy
theorem ins_len (l : List Int) (n : Int) : (ins l n).length = l.length + 1 := by
  have : lessN l n ≤ l.length := List.length_filter_le _ _
  simp [ins]; omega
theorem srt_nodup {l : List Int} (h : l.Pairwise (· < ·)) : l.Nodup := h.imp (fun h => by omega)
theorem wo_erase {l : List Int} {n : Int} : wo l n = l.erase n := by
  unfold wo
  rw [← List.eraseIdx_eq_take_drop_succ, List.erase_eq_eraseIdx_of_idxOf (by rfl)]
theorem mem_wo {l : List Int} {n x : Int} (h : l.Pairwise (· < ·)) : x ∈ wo l n ↔ x ≠ n ∧ x ∈ l := by
  rw [wo_erase]; exact (srt_nodup h).mem_erase_iff
theorem wo_len {l : List Int} {n : Int} (h : n ∈ l) : (wo l n).length + 1 = l.length := by
  rw [wo_erase, List.length_erase_of_mem h]
  have := List.length_pos_of_mem h
  omega
theorem mem_upto {n : Nat} {x : Int} : x ∈ upto n ↔ 0 ≤ x ∧ x < n := by
  unfold upto
  rw [List.mem_map]
  constructor
  · rintro ⟨k, hk, rfl⟩
    have := List.mem_range.1 hk
    simp; omega
  · rintro ⟨h1, h2⟩
    exact ⟨x.toNat, List.mem_range.2 (by omega), by simp; omega⟩
theorem upto_srt (n : Nat) : (upto n).Pairwise (· < ·) := by
  unfold upto
  rw [List.pairwise_map]
  exact List.pairwise_lt_range.imp (fun h => by simpa using h)
theorem mem_withR {l : List Int} {less more x : Int} : x ∈ withR l less more 32 ↔ (0 ≤ x ∧ x ≤ 31) ∧ (x = more ∨ (x ∈ l ∧ x ≠ less)) := by
  unfold withR
  rw [List.mem_filter, mem_upto]
  simp [keepB]
  intro _ _; omega
theorem withR_srt (l : List Int) (less more : Int) : (withR l less more 32).Pairwise (· < ·) := (upto_srt 32).sublist List.filter_sublist
theorem node_iff {n : Int} : nodeB n = true ↔ 0 ≤ n ∧ n ≤ 31 := by simp [nodeB]
theorem rise_of : ∀ (l : List Int) (last : Int), (∀ x ∈ l, last < x) → (∀ x ∈ l, 0 ≤ x ∧ x ≤ 31) → l.Pairwise (· < ·) → rise last l = true
  | [], _, _, _, _ => rfl
  | x :: r, last, h1, h2, h3 => by
    obtain ⟨a, b⟩ := List.pairwise_cons.1 h3
    have := rise_of r x a (fun y hy => h2 y (by simp [hy])) b
    have h4 := h1 x (by simp)
    have h5 := h2 x (by simp)
    simp [rise, this, nodeB, h4, h5]
structure Vd (e : Int) (l : List Int) : Prop where
  e0 : 0 ≤ e
  e1 : e ≤ 1048576
  n1 : 1 ≤ l.length
  n7 : l.length ≤ 7
  nd : ∀ x ∈ l, 0 ≤ x ∧ x ≤ 31
  srt : l.Pairwise (· < ·)
theorem valid_iff {e : Int} {l : List Int} : validB e l = true ↔ Vd e l := by
  constructor
  · intro h
    have h' := h
    simp only [validB, Bool.and_eq_true, decide_eq_true_eq] at h
    obtain ⟨⟨⟨⟨a, b⟩, c⟩, d⟩, r⟩ := h
    obtain ⟨r1, r2, r3⟩ := rise_rises _ _ r
    exact ⟨a, b, c, d, fun x hx => node_iff.1 (r2 x hx), r3⟩
  · rintro ⟨a, b, c, d, n, s⟩
    have := rise_of l (-1) (fun x hx => by have := n x hx; omega) n s
    simp [validB, a, b, c, d, this]
theorem rchange_eq (e : Int) (l : List Int) (x : Cm) : rchangeV e l x = changeV e l x := by
  unfold rchangeV changeV
  by_cases hv : validB e l = true
  · by_cases he : e = 1048576
    · simp [he]
    · rw [if_pos (show validB e l = true ∧ e ≠ 1048576 from ⟨hv, he⟩)]
      obtain ⟨_, _, _, _, nd, srt⟩ := valid_iff.1 hv
      by_cases o7 : x.op = 7
      · have hc : chV l x = addV l x.a := by simp [chV, o7]
        rw [if_pos (show (x.op = 7 ∨ x.op = 8 ∨ x.op = 9) ∧ validB e l = true ∧ e ≠ 1048576 from ⟨.inl o7, hv, he⟩), hc]
        by_cases an : nodeB x.a = true
        · by_cases am : x.a ∈ l
          · simp [rE, addV, o7, an, am]
          · by_cases a7 : 7 ≤ l.length
            · simp [rE, addV, o7, an, am, a7]
            · have e0 : rE l x = 0 := by simp [rE, o7, an, am, a7]
              have e1 : addV l x.a = (ins l x.a, 0) := by simp [addV, an, am, a7]
              have na := node_iff.1 an
              rw [if_pos e0, e1, if_pos rfl]
              have : withR l (rL x) (rM x) 32 = ins l x.a := srt_ext (withR_srt _ _ _) (ins_srt srt am) fun y => by
                rw [mem_withR, mem_ins]
                simp only [rL, rM, o7, if_true]
                constructor
                · rintro ⟨_, h | h⟩
                  · exact .inl h
                  · exact .inr h.1
                · rintro (h | h)
                  · exact ⟨by rw [h]; exact na, .inl h⟩
                  · exact ⟨nd y h, .inr ⟨h, by have := nd y h; omega⟩⟩
              rw [this]
        · have an : nodeB x.a = false := by simpa using an
          simp [rE, addV, o7, an]
      by_cases o8 : x.op = 8
      · have hc : chV l x = removeV l x.a := by simp [chV, o8]
        rw [if_pos (show (x.op = 7 ∨ x.op = 8 ∨ x.op = 9) ∧ validB e l = true ∧ e ≠ 1048576 from ⟨.inr (.inl o8), hv, he⟩), hc]
        by_cases am : x.a ∈ l
        · by_cases a1 : l.length = 1
          · simp [rE, removeV, o8, am, a1]
          · have e0 : rE l x = 0 := by simp [rE, o8, am, a1]
            have e1 : removeV l x.a = (wo l x.a, 0) := by simp [removeV, am, a1]
            rw [if_pos e0, e1, if_pos rfl]
            have : withR l (rL x) (rM x) 32 = wo l x.a := srt_ext (withR_srt _ _ _) (wo_rises srt _) fun y => by
              rw [mem_withR, mem_wo srt]
              simp only [rL, rM, o8, show ¬ (8 : Int) = 7 by omega, if_false, if_true]
              constructor
              · rintro ⟨h1, h | h⟩
                · omega
                · exact ⟨h.2, h.1⟩
              · rintro ⟨h1, h2⟩
                exact ⟨nd y h2, .inr ⟨h2, h1⟩⟩
            rw [this]
        · simp [rE, removeV, o8, am]
      by_cases o9 : x.op = 9
      · have hc : chV l x = replaceV l x.a x.b := by simp [chV, o9]
        rw [if_pos (show (x.op = 7 ∨ x.op = 8 ∨ x.op = 9) ∧ validB e l = true ∧ e ≠ 1048576 from ⟨.inr (.inr o9), hv, he⟩), hc]
        by_cases am : x.a ∈ l
        · by_cases bn : nodeB x.b = true
          · by_cases bm : x.b ∈ l
            · simp [rE, replaceV, o9, am, bn, bm]
            · have e0 : rE l x = 0 := by simp [rE, o9, am, bn, bm]
              have e1 : replaceV l x.a x.b = (ins (wo l x.a) x.b, 0) := by simp [replaceV, am, bn, bm]
              have nb := node_iff.1 bn
              rw [if_pos e0, e1, if_pos rfl]
              have : withR l (rL x) (rM x) 32 = ins (wo l x.a) x.b := srt_ext (withR_srt _ _ _) (ins_srt (wo_rises srt _) fun h => bm ((mem_wo srt).1 h).2) fun y => by
                rw [mem_withR, mem_ins, mem_wo srt]
                simp only [rL, rM, o9, show ¬ (9 : Int) = 7 by omega, show ¬ (9 : Int) = 8 by omega, if_false]
                constructor
                · rintro ⟨h1, h | h⟩
                  · exact .inl h
                  · exact .inr ⟨h.2, h.1⟩
                · rintro (h | h)
                  · exact ⟨by rw [h]; exact nb, .inl h⟩
                  · exact ⟨nd y h.2, .inr ⟨h.2, h.1⟩⟩
              rw [this]
          · have bn : nodeB x.b = false := by simpa using bn
            simp [rE, replaceV, o9, am, bn]
        · simp [rE, replaceV, o9, am]
      · simp [rE, o7, o8, o9]
  · simp [hv]
end Go.Proofs.Ytnocnhdhlibmpaa.C
