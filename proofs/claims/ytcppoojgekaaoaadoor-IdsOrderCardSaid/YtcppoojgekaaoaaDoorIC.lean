import Derived.Test.YtcppoojgekaaoaaDoorIB
/- Sets of instances: members of a map; Clean, Union. -/
set_option linter.unusedVariables false
set_option linter.unusedSimpArgs false
set_option maxRecDepth 20000
namespace Go.Proofs.YtcppoojgekaaoaaDoor.I
open Go Go.Proofs.YtcppoojgekaaoaaDoor.V Go.RowKit
@[simp] theorem av_strip (a : Iid) : (Iid.av a).strip = Iid.av a := by simp [Iid.av, Iid.c]
@[simp] theorem av_s : AV.strip ∘ Iid.av = Iid.av := s_comp av_strip
@[simp] theorem bel_av {m : Nat} {x : Iid} : Bel m (Iid.av x) := by simp [Iid.av, Iid.c]
def keys (p : MS) : List Iid := p.1.map (·.1)
def AllT (p : MS) : Prop := ∀ e ∈ p.1, e.2.1 = .bool true
theorem modify_map {β γ : Type} {f : β → β} {g : β → γ} (hg : ∀ x, g (f x) = g x) : ∀ (l : List β) (j : Nat), (l.modify j f).map g = l.map g
  | [], j => by simp
  | a :: l, 0 => by simp [hg]
  | a :: l, j + 1 => by simp [modify_map hg l j]
theorem modify_mem {β : Type} {f : β → β} {Q : β → Prop} (hf : ∀ x, Q (f x)) : ∀ (l : List β) (j : Nat), (∀ x ∈ l, Q x) → ∀ x ∈ l.modify j f, Q x
  | [], j, h, x, hx => by simp at hx
  | a :: l, 0, h, x, hx => by
    simp at hx
    rcases hx with rfl | hx
    · exact hf _
    · exact h x (by simp [hx])
  | a :: l, j + 1, h, x, hx => by
    simp at hx
    rcases hx with rfl | hx
    · exact h x (by simp)
    · exact modify_mem hf l j (fun y hy => h y (by simp [hy])) x hx
def put1 (p : MS) (k : Iid) : MS := (putE k (.bool true) p.2 p.1, putC k p.2 p.1)
theorem put_all {p : MS} {k : Iid} (h : WF p) (ha : AllT p) : WF (put1 p k) ∧ AllT (put1 p k) ∧ (∀ x, x ∈ keys (put1 p k) ↔ x ∈ keys p ∨ x = k) ∧ (put1 p k).1.length ≤ p.1.length + 1 := by
  obtain ⟨es, c⟩ := p
  unfold put1 putE putC keys AllT
  cases hk : keyAt k es with
  | none =>
    have hn := keyAt_none.1 hk
    refine ⟨⟨?_, ?_, ?_⟩, ?_, ?_, by simp⟩
    · simp only [List.map_append, List.map_cons, List.map_nil]
      rw [List.nodup_append]
      refine ⟨h.st, by simp, fun a ha b hb => ?_⟩
      simp at hb
      obtain ⟨e, he, rfl⟩ := List.mem_map.1 ha
      have h5 := h.lt e he
      simp only at h5
      omega
    · intro e he
      rcases List.mem_append.1 he with he | he
      · exact Nat.lt_succ_of_lt (h.lt e he)
      · simp at he; rw [he]; exact Nat.lt_succ_self _
    · simp only [List.map_append, List.map_cons, List.map_nil]
      rw [List.nodup_append]
      refine ⟨h.ky, by simp, fun a ha b hb => ?_⟩
      simp at hb
      obtain ⟨e, he, rfl⟩ := List.mem_map.1 ha
      rw [hb]
      exact hn e he
    · intro e he
      rcases List.mem_append.1 he with he | he
      · exact ha e he
      · simp at he; rw [he]
    · intro x
      simp
  | some j =>
    obtain ⟨hj, e⟩ := keyAt_some hk
    refine ⟨⟨?_, ?_, ?_⟩, ?_, ?_, by simp⟩
    · simp only
      rw [modify_map (f := fun q : Iid × AV × Nat => (q.1, AV.bool true, q.2.2)) (g := fun e : Iid × AV × Nat => e.2.2) (fun _ => rfl)]
      exact h.st
    · intro x hx
      have e1 : x.2.2 ∈ (es.modify j fun q => (q.1, AV.bool true, q.2.2)).map (·.2.2) := List.mem_map.2 ⟨x, hx, rfl⟩
      rw [modify_map (f := fun q : Iid × AV × Nat => (q.1, AV.bool true, q.2.2)) (g := fun e : Iid × AV × Nat => e.2.2) (fun _ => rfl)] at e1
      obtain ⟨y, hy, e2⟩ := List.mem_map.1 e1
      have := h.lt y hy
      simp only at this ⊢
      omega
    · simp only
      rw [modify_map (f := fun q : Iid × AV × Nat => (q.1, AV.bool true, q.2.2)) (g := fun e : Iid × AV × Nat => e.1) (fun _ => rfl)]
      exact h.ky
    · exact modify_mem (Q := fun e : Iid × AV × Nat => e.2.1 = .bool true) (fun _ => rfl) _ _ ha
    · intro x
      simp only
      rw [modify_map (f := fun q : Iid × AV × Nat => (q.1, AV.bool true, q.2.2)) (g := fun e : Iid × AV × Nat => e.1) (fun _ => rfl)]
      refine ⟨fun h => .inl h, fun h => ?_⟩
      rcases h with h | rfl
      · exact h
      · exact List.mem_map.2 ⟨es[j], List.getElem_mem hj, e⟩
theorem putL_all (ks : List Iid) : ∀ {p : MS}, WF p → AllT p → WF (putL p ks) ∧ AllT (putL p ks) ∧ (∀ x, x ∈ keys (putL p ks) ↔ x ∈ keys p ∨ x ∈ ks) ∧ (putL p ks).1.length ≤ p.1.length + ks.length := by
  induction ks with
  | nil => intro p h ha; simp [putL]; exact ⟨h, ha⟩
  | cons k ks ih =>
    intro p h ha
    obtain ⟨h1, h2, h3, h4⟩ := put_all (k := k) h ha
    obtain ⟨g1, g2, g3, g4⟩ := ih h1 h2
    refine ⟨g1, g2, fun x => (g3 x).trans ?_, Nat.le_trans g4 (by simp; omega)⟩
    rw [h3]
    simp
    exact ⟨fun h => by rcases h with (h | h) | h <;> simp [h], fun h => by rcases h with h | h | h <;> simp [h]⟩
theorem wf0 : WF ([], 0) := ⟨.nil, fun e h => (by cases h), .nil⟩
theorem all0 : AllT ([], 0) := fun e h => by cases h
abbrev ms (l : List Iid) : MS := putL ([], 0) l
theorem ms_wf (l : List Iid) : WF (ms l) := (putL_all l wf0 all0).1
theorem ms_all (l : List Iid) : AllT (ms l) := (putL_all l wf0 all0).2.1
theorem ms_mem (l : List Iid) (x : Iid) : x ∈ keys (ms l) ↔ x ∈ l := by
  rw [(putL_all l wf0 all0).2.2.1]
  simp [keys]
theorem ms_len (l : List Iid) : (ms l).1.length ≤ l.length := by have := (putL_all l wf0 all0).2.2.2; simpa using this
theorem clean_ext {a b : List Iid} (h : ∀ x, x ∈ a ↔ x ∈ b) : clean a = clean b := ris_unique (clean_ris a) (clean_ris b) fun k => by rw [clean_mem, clean_mem, h]
theorem clean_ms (l : List Iid) : clean ((ms l).1.map (·.1)) = clean l := clean_ext (ms_mem l)
theorem clean_ok (l : List Iid) (t : Tok) (hl : l.length ≤ 100000) (h : AHeap) : ACalls Tryd.prog 20 [.list (l.map Iid.av) t] h fun r h' => r = lv (clean l) ∧ h' = h := by
  refine acalls_of_awp Tryd.func20 rfl (by simp only [List.length_cons, List.length_nil]; decide) ?_
  simp only [params_cons, params_nil]
  repeat (first | ((first | refine zd ?_ | refine zx ?_ | refine zk ?_ | refine zl ?_ | refine zr ?_); refine zq ?_) | refine zs ?_ | refine zg ?_ | refine zb ?_ | refine zo ?_ | refine zt ?_ | refine zf ?_)
  refine goes_callS (callable_of Tryd.func32) (by simp -implicitDefEqProofs (disch := (first | omega | (simp; done) | fail)) [if_pos, if_neg, wrap_i64, tmod_pos, tdiv_pos, Int.toNat_add, lv] <;> first | rfl | omega) _ (of_ok [l] .no (by simp) (by simpa using hl) _) ?_
  rintro _ _ ⟨rfl, X, rfl⟩
  rw [show [l].flatten = l by simp]
  refine ze ?_
  refine goes_callS (callable_of Tryd.func33) (by simp -implicitDefEqProofs (disch := (first | omega | (simp; done) | fail)) [if_pos, if_neg, wrap_i64, tmod_pos, tdiv_pos, Int.toNat_add] <;> first | rfl | omega) _ (list_ok (ms l) (ms_wf l) h.length (Nat.le_trans (ms_len l) hl) _ (by simp)) ?_
  rintro _ _ ⟨rfl, Y, rfl⟩
  rw [clean_ms]
  rw [List.append_assoc]
  refine goes_eq (by simp -implicitDefEqProofs (disch := (first | omega | (simp; done) | fail)) [if_pos, if_neg, wrap_i64, tmod_pos, tdiv_pos, Int.toNat_add, lv]; rfl) ?_
  repeat (first | ((first | refine zd ?_ | refine zx ?_ | refine zk ?_ | refine zl ?_ | refine zr ?_); refine zq ?_) | refine zs ?_ | refine zg ?_ | refine zb ?_ | refine zo ?_ | refine zt ?_ | refine zf ?_)
  first | refine zy (.inr rfl) ?_ | refine zy (.inl rfl) ?_
  simp [lv]
theorem union_ok (a b : List Iid) (t u : Tok) (ha : a.length ≤ 10000) (hb : b.length ≤ 10000) (h : AHeap) : ACalls Tryd.prog 22 [.list (a.map Iid.av) t, .list (b.map Iid.av) u] h fun r h' => r = lv (clean (a ++ b)) ∧ h' = h := by
  refine acalls_of_awp Tryd.func22 rfl (by simp only [List.length_cons, List.length_nil]; decide) ?_
  simp only [params_cons, params_nil]
  repeat (first | ((first | refine zd ?_ | refine zx ?_ | refine zk ?_ | refine zl ?_ | refine zr ?_); refine zq ?_) | refine zs ?_ | refine zg ?_ | refine zb ?_ | refine zo ?_ | refine zt ?_ | refine zf ?_)
  refine goes_callS (callable_of Tryd.func32) (by simp -implicitDefEqProofs (disch := (first | omega | (simp; done) | fail)) [if_pos, if_neg, wrap_i64, tmod_pos, tdiv_pos, Int.toNat_add, lv] <;> first | rfl | omega) _ (of_ok [a, b] .no (by simp) (by simp; omega) _) ?_
  rintro _ _ ⟨rfl, X, rfl⟩
  rw [show [a, b].flatten = a ++ b by simp]
  refine ze ?_
  refine goes_callS (callable_of Tryd.func33) (by simp -implicitDefEqProofs (disch := (first | omega | (simp; done) | fail)) [if_pos, if_neg, wrap_i64, tmod_pos, tdiv_pos, Int.toNat_add] <;> first | rfl | omega) _ (list_ok (ms (a ++ b)) (ms_wf _) h.length (Nat.le_trans (ms_len _) (by simp; omega)) _ (by simp)) ?_
  rintro _ _ ⟨rfl, Y, rfl⟩
  rw [clean_ms]
  rw [List.append_assoc]
  refine goes_eq (by simp -implicitDefEqProofs (disch := (first | omega | (simp; done) | fail)) [if_pos, if_neg, wrap_i64, tmod_pos, tdiv_pos, Int.toNat_add, lv]; rfl) ?_
  repeat (first | ((first | refine zd ?_ | refine zx ?_ | refine zk ?_ | refine zl ?_ | refine zr ?_); refine zq ?_) | refine zs ?_ | refine zg ?_ | refine zb ?_ | refine zo ?_ | refine zt ?_ | refine zf ?_)
  first | refine zy (.inr rfl) ?_ | refine zy (.inl rfl) ?_
  simp [lv]
end Go.Proofs.YtcppoojgekaaoaaDoor.I

/- Sets of instances: Less2. -/
set_option linter.unusedVariables false
set_option linter.unusedSimpArgs false
set_option maxRecDepth 20000
namespace Go.Proofs.YtcppoojgekaaoaaDoor.I
open Go Go.Proofs.YtcppoojgekaaoaaDoor.V Go.RowKit
def del1 (p : MS) (k : Iid) : MS := (delE k p.1, p.2)
def delL (p : MS) (ks : List Iid) : MS := ks.foldl del1 p
theorem delL_snoc (p : MS) (ks : List Iid) (k : Iid) : delL p (ks ++ [k]) = del1 (delL p ks) k := by simp [delL]
theorem del_all {p : MS} {k : Iid} (h : WF p) (ha : AllT p) : WF (del1 p k) ∧ AllT (del1 p k) ∧ (∀ x, x ∈ keys (del1 p k) ↔ x ∈ keys p ∧ x ≠ k) ∧ (del1 p k).1.length ≤ p.1.length := by
  obtain ⟨es, c⟩ := p
  unfold del1 delE
  cases hk : keyAt k es with
  | none =>
    have hn := keyAt_none.1 hk
    refine ⟨h, ha, fun x => ⟨fun hx => ⟨hx, fun e => ?_⟩, fun hx => hx.1⟩, Nat.le_refl _⟩
    subst e
    obtain ⟨e, he, e2⟩ := List.mem_map.1 hx
    exact hn e he e2
  | some j =>
    obtain ⟨hj, e⟩ := keyAt_some hk
    have hs : (es.eraseIdx j).Sublist es := List.eraseIdx_sublist es j
    refine ⟨⟨(hs.map _).nodup h.st, fun e he => h.lt e (hs.subset he), (hs.map _).nodup h.ky⟩, fun e he => ha e (hs.subset he), fun x => ⟨fun hx => ?_, fun ⟨hx, hne⟩ => ?_⟩, hs.length_le⟩
    · obtain ⟨q, hq, rfl⟩ := List.mem_map.1 hx
      refine ⟨List.mem_map.2 ⟨q, hs.subset hq, rfl⟩, fun e2 => ?_⟩
      obtain ⟨i, hi, hne, e3⟩ := List.mem_eraseIdx_iff_getElem.1 hq
      have hp : List.Pairwise (fun a b : Iid × AV × Nat => a.1 ≠ b.1) es := List.pairwise_map.1 h.ky
      rcases Nat.lt_or_gt_of_ne hne with hlt | hlt
      · exact List.pairwise_iff_getElem.1 hp i j hi hj hlt (by rw [e3, e2, e])
      · exact List.pairwise_iff_getElem.1 hp j i hj hi hlt (by rw [e3, e2, e])
    · obtain ⟨q, hq, rfl⟩ := List.mem_map.1 hx
      obtain ⟨i, hi, rfl⟩ := List.getElem_of_mem hq
      exact List.mem_map.2 ⟨_, List.mem_eraseIdx_iff_getElem.2 ⟨i, hi, fun e2 => hne (by subst e2; exact e), rfl⟩, rfl⟩
theorem delL_all (ks : List Iid) : ∀ {p : MS}, WF p → AllT p → WF (delL p ks) ∧ AllT (delL p ks) ∧ (∀ x, x ∈ keys (delL p ks) ↔ x ∈ keys p ∧ x ∉ ks) ∧ (delL p ks).1.length ≤ p.1.length := by
  induction ks with
  | nil => intro p h ha; simp [delL]; exact ⟨h, ha⟩
  | cons k ks ih =>
    intro p h ha
    obtain ⟨h1, h2, h3, h4⟩ := del_all (k := k) h ha
    obtain ⟨g1, g2, g3, g4⟩ := ih h1 h2
    refine ⟨g1, g2, fun x => (g3 x).trans ?_, Nat.le_trans g4 h4⟩
    rw [h3]
    simp
    exact ⟨fun ⟨⟨a, b⟩, c⟩ => ⟨a, b, c⟩, fun ⟨a, b, c⟩ => ⟨⟨a, b⟩, c⟩⟩
def sub (a b : List Iid) : List Iid := a.filter fun x => !b.contains x
theorem sub_mem (a b : List Iid) (x : Iid) : x ∈ sub a b ↔ x ∈ a ∧ x ∉ b := by simp [sub]
theorem clean_del (a b : List Iid) : clean ((delL (ms a) b).1.map (·.1)) = clean (sub a b) := clean_ext fun x => by
  have := (delL_all b (ms_wf a) (ms_all a)).2.2.1 x
  rw [ms_mem] at this
  rw [sub_mem]
  exact this
theorem less2_ok (a b : List Iid) (t u : Tok) (ha : a.length ≤ 10000) (hb : b.length ≤ 10000) (h : AHeap) : ACalls Tryd.prog 24 [.list (a.map Iid.av) t, .list (b.map Iid.av) u] h fun r h' => r = lv (clean (sub a b)) ∧ h' = h := by
  refine acalls_of_awp Tryd.func24 rfl (by simp only [List.length_cons, List.length_nil]; decide) ?_
  simp only [params_cons, params_nil]
  repeat (first | ((first | refine zd ?_ | refine zx ?_ | refine zk ?_ | refine zl ?_ | refine zr ?_); refine zq ?_) | refine zs ?_ | refine zg ?_ | refine zb ?_ | refine zo ?_ | refine zt ?_ | refine zf ?_)
  refine goes_callS (callable_of Tryd.func32) (by simp -implicitDefEqProofs (disch := (first | omega | (simp; done) | fail)) [if_pos, if_neg, wrap_i64, tmod_pos, tdiv_pos, Int.toNat_add, lv] <;> first | rfl | omega) _ (of_ok [a] .no (by simp) (by simp; omega) _) ?_
  rintro _ _ ⟨rfl, X, rfl⟩
  rw [show [a].flatten = a by simp]
  refine ze ?_
  repeat (first | ((first | refine zd ?_ | refine zx ?_ | refine zk ?_ | refine zl ?_ | refine zr ?_); refine zq ?_) | refine zs ?_ | refine zg ?_ | refine zb ?_ | refine zo ?_ | refine zt ?_ | refine zf ?_)
  refine awp_loop (fun z st => ∃ (j : Nat) (X : AHeap), z = b.length - j ∧ j ≤ b.length ∧ st.le ⟨Tryd.f24.ntmps, [(5, .map h.length), (11, .list (b.map Iid.av) u), (12, iv (b.length : Nat)), (13, iv (j : Nat))], h ++ (delL (ms a) (b.take j)).o :: X⟩) b.length ?_ ?_
  rotate_left
  rintro z st ⟨j, X', rfl, hj, hle⟩
  · refine awp_le hle ?_
    clear hle
    by_cases h10 : j = b.length
    · subst h10
      have q5 : ¬ (b.length : Int) < (b.length : Int) := by omega
      obtain ⟨hw, hal, -, hln⟩ := delL_all b (ms_wf a) (ms_all a)
      have hml := ms_len a
      rw [List.take_length]
      repeat (first | ((first | refine zd ?_ | refine zx ?_ | refine zk ?_ | refine zl ?_ | refine zr ?_); refine zq ?_) | refine zs ?_ | refine zh (by simp -implicitDefEqProofs (disch := (first | omega | (simp; done) | fail)) [if_pos, if_neg, wrap_i64, tmod_pos, tdiv_pos, Int.toNat_add, q5]; rfl) ?_ | refine zb ?_ | refine zo ?_ | refine zt ?_ | refine zf ?_)
      refine goes_callS (callable_of Tryd.func33) (by simp -implicitDefEqProofs (disch := (first | omega | (simp; done) | fail)) [if_pos, if_neg, wrap_i64, tmod_pos, tdiv_pos, Int.toNat_add] <;> first | rfl | omega) _ (list_ok (delL (ms a) b) hw h.length (by omega) _ (by simp)) ?_
      rintro _ _ ⟨rfl, Y, rfl⟩
      rw [clean_del]
      rw [List.append_assoc]
      refine goes_eq (by simp -implicitDefEqProofs (disch := (first | omega | (simp; done) | fail)) [if_pos, if_neg, wrap_i64, tmod_pos, tdiv_pos, Int.toNat_add, lv]; rfl) ?_
      repeat (first | ((first | refine zd ?_ | refine zx ?_ | refine zk ?_ | refine zl ?_ | refine zr ?_); refine zq ?_) | refine zs ?_ | refine zg ?_ | refine zb ?_ | refine zo ?_ | refine zt ?_ | refine zf ?_)
      first | refine zy (.inr rfl) ?_ | refine zy (.inl rfl) ?_
      simp [lv]
    have hlt : j < b.length := by omega
    have q5 : (j : Int) < (b.length : Int) := by omega
    have hx3 : (b.map Iid.av)[j]? = some (Iid.av b[j]) := by simp [hlt]
    have htk2 : b.take (j + 1) = b.take j ++ [b[j]] := List.take_succ_eq_append_getElem hlt
    generalize b[j] = k at *
    clear hlt
    have hs := delL_snoc (ms a) (b.take j) k
    rw [← htk2] at hs
    generalize delL (ms a) (b.take j) = pj at *
    have hu2 : uni 3 (b.map Iid.av) = true := uni_map fun _ => rfl
    refine awp_seq ?_
    refine zh (by simp -implicitDefEqProofs (disch := (first | omega | (simp; done) | fail)) [if_pos, if_neg, wrap_i64, tmod_pos, tdiv_pos, Int.toNat_add, q5]; rfl) ?_
    refine goes_done ?_
    (try simp only [vq, if_true, reduceIte, Nat.reduceEqDiff, reduceCtorEq])
    refine awp_seq ?_
    refine awp_cond_t rfl ?_
    refine awp_skip ?_
    simp only [vq, if_true, reduceIte, Nat.reduceEqDiff, reduceCtorEq]
    refine awp_seq ?_
    refine awp_block ?_
    refine awp_seq ?_
    refine zh (by simp -implicitDefEqProofs (disch := (first | omega | (simp; done) | fail)) [if_pos, if_neg, wrap_i64, tmod_pos, tdiv_pos, Int.toNat_add, hx3, hu2, Iid.av, Iid.c]; rfl) ?_
    refine goes_done ?_
    (try simp only [vq, if_true, reduceIte, Nat.reduceEqDiff, reduceCtorEq])
    refine awp_region_at 2 rfl rfl ?_
    refine zn ?_
    refine goes_done ?_
    refine aops_del (id := h.length) (es := pj.1) (clock := pj.2) (k := k) iid_key rfl rfl Tryd.underlying41 rfl rfl (by simp [MS.o]) ?_
    refine aops_end ?_
    refine zn ?_
    refine goes_done ?_
    simp only [vq, if_true, reduceIte, Nat.reduceEqDiff, reduceCtorEq]
    repeat (first | ((first | refine zd ?_ | refine zx ?_ | refine zk ?_ | refine zl ?_ | refine zr ?_); refine zq ?_) | refine zs ?_ | refine zg ?_ | refine zb ?_ | refine zo ?_ | refine zt ?_ | refine zf ?_)
    refine ⟨b.length - (j + 1), by omega, j + 1, X' ++ [.cells [iv k.e, iv k.n, iv k.o]], rfl, by omega, ?_⟩
    rw [hs]
    exact st_keep' (by simp [MS.o, del1]) (by simp [MS.o, del1])
  · exact ⟨0, X, rfl, by omega, by rw [List.take_zero]; exact st_keep' (by simp [lv, delL]) (by simp [lv, delL])⟩
end Go.Proofs.YtcppoojgekaaoaaDoor.I

/- Sets of instances: maps.Equal, Same. -/
set_option linter.unusedVariables false
set_option linter.unusedSimpArgs false
set_option maxRecDepth 20000
namespace Go.Proofs.YtcppoojgekaaoaaDoor.I
open Go Go.Proofs.YtcppoojgekaaoaaDoor.V Go.RowKit
def sameB (p q : MS) : Bool := decide (p.1.length = q.1.length) && p.1.all fun e => (keyAt e.1 q.1).isSome
theorem look_true {q : MS} (ha : AllT q) {k : Iid} (h : (keyAt k q.1).isSome = true) : lookE (.bool false) k q.1 = .bool true := by
  unfold lookE
  cases hk : keyAt k q.1 with
  | none => rw [hk] at h; cases h
  | some j =>
    obtain ⟨hj, e⟩ := keyAt_some hk
    simp [hj]
    exact ha _ (List.getElem_mem hj)
theorem zero_bool (g : Ghost) (w : World) : ∃ v, (zeroValue 4).run Tryd.prog w = .ok v w ∧ VRel g (.bool false) v := ⟨.bool false, Tryd.zeroValue4 w, .bool _⟩
theorem aops_at {P : Program} {E : Env P} {ops : Array Oper} {l l1 l2 : List Oper} {n : Nat} {s : Slots} {h : AHeap} {K : ASt → Prop} (k0 : Nat) (h1 : l.take k0 = l1) (h2 : l.drop k0 = l2)
    (k : ARun E ops n l1 s h fun s' h' => AOps E ops l2 ⟨n, s', h'⟩ K) : AOps E ops l ⟨n, s, h⟩ K := by
  have := aops_run k
  rwa [← h1, ← h2, List.take_append_drop] at this
theorem equal_ok (p q : MS) (hw : WF p) (hp : AllT p) (hq : AllT q) (hl : p.1.length ≤ 100000) (hlq : q.1.length ≤ 100000) (i1 i2 : Nat) (h : AHeap) (ho : h[i1]? = some p.o) (ho2 : h[i2]? = some q.o) :
    ACalls Tryd.prog 35 [.map i1, .map i2] h fun r h' => r = .bool (sameB p q) ∧ h' = h := by
  have hol : ∀ y, (h ++ y)[i1]? = some (.map (p.1.map fun q => (Iid.av q.1, q.2.1, q.2.2)) p.2) := fun y => by rw [List.getElem?_append_left (List.getElem?_eq_some_iff.1 ho).1]; exact ho
  have hol2 : ∀ y, (h ++ y)[i2]? = some (mapO Iid.av q.1 q.2) := fun y => by rw [List.getElem?_append_left (List.getElem?_eq_some_iff.1 ho2).1]; exact ho2
  have hol0 := hol []
  have hol20 : (h ++ [])[i2]? = some (.map (q.1.map fun q => (Iid.av q.1, q.2.1, q.2.2)) q.2) := hol2 []
  rw [List.append_nil] at hol0 hol20
  clear ho ho2
  refine acalls_of_awp Tryd.func35 rfl (by simp only [List.length_cons, List.length_nil]; decide) ?_
  simp only [params_cons, params_nil]
  refine awp_seq ?_
  refine zg ?_
  refine goes_done ?_
  (try simp only [vq, if_true, reduceIte, Nat.reduceEqDiff, reduceCtorEq])
  refine awp_seq ?_
  refine awp_seq ?_
  refine awp_region_at 1 rfl rfl ?_
  refine zn ?_
  refine goes_done ?_
  refine aops_lenm (id := i1) rfl rfl Tryd.underlying41 rfl hol0 ?_
  refine aops_at 1 rfl rfl ?_
  refine zn ?_
  refine goes_done ?_
  refine aops_lenm (id := i2) rfl rfl Tryd.underlying41 rfl hol20 ?_
  refine aops_end ?_
  unfold sameB
  by_cases hlen : p.1.length = q.1.length
  case neg =>
    have hb : ((p.1.length : Int) != (q.1.length : Int)) = true := by simp; omega
    refine run_start (goes_eq (by simp -implicitDefEqProofs (disch := (first | omega | (simp; done) | fail)) [if_pos, if_neg, wrap_i64, tmod_pos, tdiv_pos, Int.toNat_add, hb]; rfl) ?_)
    refine goes_done ?_
    simp only [vq, if_true, reduceIte, Nat.reduceEqDiff, reduceCtorEq]
    refine awp_cond_t rfl ?_
    repeat (first | ((first | refine zd ?_ | refine zx ?_ | refine zk ?_ | refine zl ?_ | refine zr ?_); refine zq ?_) | refine zs ?_ | refine zg ?_ | refine zb ?_ | refine zo ?_ | refine zt ?_ | refine zf ?_)
    first | refine zY (.inr rfl) ?_ | refine zY (.inl rfl) ?_
    simp [hlen]
  refine run_start (goes_eq (by simp -implicitDefEqProofs (disch := (first | omega | (simp; done) | fail)) [if_pos, if_neg, wrap_i64, tmod_pos, tdiv_pos, Int.toNat_add, hlen]; rfl) ?_)
  refine goes_done ?_
  simp only [vq, if_true, reduceIte, Nat.reduceEqDiff, reduceCtorEq]
  refine awp_cond_f rfl ?_
  refine awp_skip ?_
  simp only [vq, if_true, reduceIte, Nat.reduceEqDiff, reduceCtorEq]
  refine awp_seq ?_
  refine awp_seq ?_
  refine awp_region_at 1 rfl rfl ?_
  refine zn ?_
  refine goes_done ?_
  refine aops_range (id := i1) (clock := p.2) rfl rfl Tryd.underlying41 rfl hol0 ?_
  refine aops_end ?_
  refine zn ?_
  refine goes_done ?_
  simp only [vq, if_true, reduceIte, Nat.reduceEqDiff, reduceCtorEq]
  refine awp_block ?_
  refine awp_loop (fun z st => ∃ (ps : Ents Iid) (X : AHeap), z = (p.1.filter fun q => !(ps.map (·.2.2)).contains q.2.2).length ∧ (∀ q ∈ ps, q ∈ p.1) ∧ (∀ e ∈ ps, (keyAt e.1 q.1).isSome = true) ∧ st.le ⟨Tryd.f35.ntmps, [(1, .map i2), (15, .ptr h.length 0)], h ++ (.iter i1 p.2 p.2 (ps.map (·.2.2)) :: X)⟩) (p.1.filter fun q => !(([] : Ents Iid).map (·.2.2)).contains q.2.2).length ?_ ?_
  rotate_left
  rintro z st ⟨ps, X, rfl, hps, hin, hle⟩
  · refine awp_le hle ?_
    clear hle
    refine awp_seq ?_
    refine awp_region_at 0 rfl rfl ?_
    refine zn ?_
    refine goes_done ?_
    refine aops_next (id := i1) (rid := h.length) (clock := p.2) (since := p.2) (last := p.2) (seen := ps.map (·.2.2)) (es := p.1.map fun q => (Iid.av q.1, q.2.1, q.2.2)) rfl rfl rfl (by simp) (hol _) (fun q hq => ?_) (Nat.le_refl _) (fun hall => ?_) (fun p0 hp0 hns => ?_)
    · obtain ⟨e, he, rfl⟩ := List.mem_map.1 hq
      exact hw.lt e he
    · have hfin : (p.1.all fun e => (keyAt e.1 q.1).isSome) = true := by
        rw [List.all_eq_true]
        intro e he
        obtain ⟨e2, he2, e3⟩ := List.mem_map.1 (hall _ (List.mem_map.2 ⟨e, he, rfl⟩))
        have := hps e2 he2
        have hst : List.Pairwise (fun a b : Iid × AV × Nat => a.2.2 ≠ b.2.2) p.1 := List.pairwise_map.1 hw.st
        have heq : e2 = e := by
          obtain ⟨i, hi, rfl⟩ := List.getElem_of_mem this
          obtain ⟨j, hj, rfl⟩ := List.getElem_of_mem he
          rcases Nat.lt_trichotomy i j with hlt | hlt | hlt
          · exact absurd e3 (List.pairwise_iff_getElem.1 hst i j hi hj hlt)
          · subst hlt; rfl
          · exact absurd e3.symm (List.pairwise_iff_getElem.1 hst j i hj hi hlt)
        rw [← heq]
        exact hin e2 he2
      refine aops_end ?_
      refine zn ?_
      refine goes_done ?_
      simp only [vq, if_true, reduceIte, Nat.reduceEqDiff, reduceCtorEq]
      repeat (first | ((first | refine zd ?_ | refine zx ?_ | refine zk ?_ | refine zl ?_ | refine zr ?_); refine zq ?_) | refine zs ?_ | refine zg ?_ | refine zb ?_ | refine zo ?_ | refine zt ?_ | refine zf ?_)
      first | refine zy (.inr rfl) ?_ | refine zy (.inl rfl) ?_
      simp [hlen, hfin]
    · obtain ⟨e, he, rfl⟩ := List.mem_map.1 hp0
      have het := hp e he
      have hns2 : e.2.2 ∉ ps.map (·.2.2) := hns
      refine aops_end ?_
      refine zn ?_
      refine goes_done ?_
      simp only [vq, if_true, reduceIte, Nat.reduceEqDiff, reduceCtorEq]
      refine awp_seq ?_
      refine awp_cond_t rfl ?_
      refine awp_skip ?_
      simp only [vq, if_true, reduceIte, Nat.reduceEqDiff, reduceCtorEq]
      refine awp_block ?_
      refine awp_seq ?_
      refine awp_region_at 0 rfl rfl ?_
      refine zn ?_
      refine goes_done ?_
      refine aops_entry (id := i1) (rid := h.length) (clock := p.2) (since := p.2) (seen := ps.map (·.2.2)) (es := p.1.map fun q => (Iid.av q.1, q.2.1, q.2.2)) (p := (Iid.av e.1, e.2.1, e.2.2)) rfl rfl rfl (by simp) (hol _) hp0 (by rw [List.map_map]; exact hw.st) ?_
      refine aops_end ?_
      simp only [Iid.av, Iid.c]
      refine zn ?_
      refine goes_done ?_
      simp only [vq, if_true, reduceIte, Nat.reduceEqDiff, reduceCtorEq]
      refine awp_seq ?_
      refine awp_region_at 2 rfl rfl ?_
      refine zn ?_
      refine goes_done ?_
      refine aops_look (id := i2) (es := q.1) (clock := q.2) (k := e.1) (z := .bool false) (c := true) iid_key rfl rfl Tryd.underlying41 zero_bool rfl rfl (hol2 _) ?_
      refine aops_end ?_
      cases hk : (keyAt e.1 q.1).isSome with
      | false =>
        have hfin : (p.1.all fun e => (keyAt e.1 q.1).isSome) = false := by
          rw [List.all_eq_false]
          exact ⟨e, he, by rw [hk]; simp⟩
        refine zn ?_
        refine goes_done ?_
        simp only [vq, if_true, reduceIte, Nat.reduceEqDiff, reduceCtorEq]
        repeat (first | ((first | refine zd ?_ | refine zx ?_ | refine zk ?_ | refine zl ?_ | refine zr ?_); refine zq ?_) | refine zs ?_ | refine zg ?_ | refine zb ?_ | refine zo ?_ | refine zt ?_ | refine zf ?_)
        first | refine zy (.inr rfl) ?_ | refine zy (.inl rfl) ?_
        simp [hfin]
      | true =>
        rw [look_true hq hk, het]
        refine zn ?_
        refine goes_done ?_
        simp only [vq, if_true, reduceIte, Nat.reduceEqDiff, reduceCtorEq]
        repeat (first | ((first | refine zd ?_ | refine zx ?_ | refine zk ?_ | refine zl ?_ | refine zr ?_); refine zq ?_) | refine zs ?_ | refine zg ?_ | refine zb ?_ | refine zo ?_ | refine zt ?_ | refine zf ?_)
        have hlt := flt_lt (f := fun e2 : Iid × AV × Nat => !((ps ++ [e]).map (·.2.2)).contains e2.2.2) (g := fun e2 : Iid × AV × Nat => !(ps.map (·.2.2)).contains e2.2.2) (p := e) (fun x hx => by simp at hx ⊢; exact fun a b hab => hx.1 a b hab) (by simpa using hns2) (by simp) he
        refine ⟨_, hlt, ps ++ [e], X ++ [.cells [iv e.1.e, iv e.1.n, iv e.1.o]], rfl, fun x hx => ?_, fun x hx => ?_, ?_⟩
        · rcases List.mem_append.1 hx with hx | hx
          · exact hps x hx
          · simp at hx; rw [hx]; exact he
        · rcases List.mem_append.1 hx with hx | hx
          · exact hin x hx
          · simp at hx; rw [hx]; exact hk
        · rw [show (ps ++ [e]).map (·.2.2) = ps.map (·.2.2) ++ [e.2.2] by simp]
          exact st_keep' (by simp []) (by simp [])
  · exact ⟨[], [], rfl, by simp, by simp, st_keep' (by simp []) (by simp [])⟩
end Go.Proofs.YtcppoojgekaaoaaDoor.I

/- Sets of instances: Same, Has, Valid. -/
set_option linter.unusedVariables false
set_option linter.unusedSimpArgs false
set_option maxRecDepth 20000
namespace Go.Proofs.YtcppoojgekaaoaaDoor.I
open Go Go.Proofs.YtcppoojgekaaoaaDoor.V Go.RowKit
theorem nd_len {a b : List Iid} (ha : a.Nodup) (hb : b.Nodup) (h : ∀ x, x ∈ a ↔ x ∈ b) : a.length = b.length :=
  Nat.le_antisymm (List.Nodup.length_le_of_subset ha fun x hx => (h x).1 hx) (List.Nodup.length_le_of_subset hb fun x hx => (h x).2 hx)
theorem key_in (k : Iid) (p : MS) : (keyAt k p.1).isSome = true ↔ k ∈ keys p := by
  cases hk : keyAt k p.1 with
  | none =>
    have := keyAt_none.1 hk
    simp only [Option.isSome_none, Bool.false_eq_true, false_iff]
    intro h
    obtain ⟨e, he, e2⟩ := List.mem_map.1 h
    exact this e he e2
  | some j =>
    obtain ⟨hj, e⟩ := keyAt_some hk
    simp only [Option.isSome_some, true_iff]
    exact List.mem_map.2 ⟨_, List.getElem_mem hj, e⟩
theorem same_iff (a b : List Iid) : sameB (ms a) (ms b) = decide (clean a = clean b) := by
  rw [Bool.eq_iff_iff, decide_eq_true_eq]
  unfold sameB
  rw [Bool.and_eq_true, decide_eq_true_eq, List.all_eq_true]
  have la : (keys (ms a)).length = (ms a).1.length := by simp [keys]
  have lb : (keys (ms b)).length = (ms b).1.length := by simp [keys]
  constructor
  · rintro ⟨h1, h2⟩
    have hs : ∀ x ∈ keys (ms a), x ∈ keys (ms b) := fun x hx => by
      obtain ⟨e, he, rfl⟩ := List.mem_map.1 hx
      exact (key_in _ _).1 (h2 e he)
    refine clean_ext fun x => ?_
    rw [← ms_mem a, ← ms_mem b]
    refine ⟨hs x, fun hx => Classical.byContradiction fun hn => ?_⟩
    have h3 := List.Nodup.length_le_of_subset (l₁ := x :: keys (ms a)) (l₂ := keys (ms b)) (List.nodup_cons.2 ⟨hn, (ms_wf a).ky⟩) fun y hy => by
      rcases List.mem_cons.1 hy with rfl | hy
      · exact hx
      · exact hs y hy
    simp at h3
    omega
  · intro h
    have hm : ∀ x, x ∈ keys (ms a) ↔ x ∈ keys (ms b) := fun x => by rw [ms_mem, ms_mem, ← clean_mem a, h, clean_mem]
    have := nd_len (ms_wf a).ky (ms_wf b).ky hm
    refine ⟨by rw [← la, ← lb]; exact this, fun e he => (key_in _ _).2 ((hm _).1 (List.mem_map.2 ⟨e, he, rfl⟩))⟩
theorem same_ok (a b : List Iid) (t u : Tok) (ha : a.length ≤ 10000) (hb : b.length ≤ 10000) (h : AHeap) : ACalls Tryd.prog 26 [.list (a.map Iid.av) t, .list (b.map Iid.av) u] h fun r h' => r = .bool (decide (clean a = clean b)) ∧ h' = h := by
  refine acalls_of_awp Tryd.func26 rfl (by simp only [List.length_cons, List.length_nil]; decide) ?_
  simp only [params_cons, params_nil]
  repeat (first | ((first | refine zd ?_ | refine zx ?_ | refine zk ?_ | refine zl ?_ | refine zr ?_); refine zq ?_) | refine zs ?_ | refine zg ?_ | refine zb ?_ | refine zo ?_ | refine zt ?_ | refine zf ?_)
  refine goes_callS (callable_of Tryd.func32) (by simp -implicitDefEqProofs (disch := (first | omega | (simp; done) | fail)) [if_pos, if_neg, wrap_i64, tmod_pos, tdiv_pos, Int.toNat_add, lv] <;> first | rfl | omega) _ (of_ok [a] .no (by simp) (by simp; omega) _) ?_
  rintro _ _ ⟨rfl, X, rfl⟩
  rw [show [a].flatten = a by simp]
  refine ze ?_
  refine goes_callS (callable_of Tryd.func32) (by simp -implicitDefEqProofs (disch := (first | omega | (simp; done) | fail)) [if_pos, if_neg, wrap_i64, tmod_pos, tdiv_pos, Int.toNat_add, lv] <;> first | rfl | omega) _ (of_ok [b] .no (by simp) (by simp; omega) _) ?_
  rintro _ _ ⟨rfl, Y, rfl⟩
  rw [show [b].flatten = b by simp]
  refine ze ?_
  have hma := ms_len a
  have hmb := ms_len b
  refine zp (callable_of Tryd.func35) _ (equal_ok (ms a) (ms b) (ms_wf a) (ms_all a) (ms_all b) (by omega) (by omega) h.length (h.length + (X.length + 1)) (h ++ (ms a).o :: (X ++ (ms b).o :: Y)) (by simp) (by rw [List.getElem?_append_right (by omega)]; simp)) ?_
  rintro _ _ ⟨rfl, rfl⟩
  rw [same_iff]
  refine ze ?_
  repeat (first | ((first | refine zd ?_ | refine zx ?_ | refine zk ?_ | refine zl ?_ | refine zr ?_); refine zq ?_) | refine zs ?_ | refine zg ?_ | refine zb ?_ | refine zo ?_ | refine zt ?_ | refine zf ?_)
  first | refine zy (.inr rfl) ?_ | refine zy (.inl rfl) ?_
  simp
theorem eqb (a b : Iid) : (a.e == b.e && (a.n == b.n && a.o == b.o)) = decide (a = b) := by
  obtain ⟨a1, a2, a3⟩ := a
  obtain ⟨b1, b2, b3⟩ := b
  rw [Bool.eq_iff_iff]
  simp
theorem neb (a b : Iid) : (a.e != b.e || (a.n != b.n || a.o != b.o)) = !decide (a = b) := by
  rw [← eqb]
  simp [bne, Bool.not_and]
theorem index_ok (l : List Iid) (x : Iid) (t : Tok) (hl : l.length ≤ 100000) (h : AHeap) : ACalls Tryd.prog 39 [.list (l.map Iid.av) t, Iid.av x] h fun r h' => (∃ z : Int, r = iv z ∧ decide (0 ≤ z) = l.contains x) ∧ h' = h := by
  have hu : uni 3 (l.map Iid.av) = true := uni_map fun _ => rfl
  unfold Iid.av
  rw [show (fun x => AV.agg (Iid.c x)) = Iid.av from rfl]
  unfold Iid.c
  refine acalls_of_awp Tryd.func39 rfl (by simp only [List.length_cons, List.length_nil]; decide) ?_
  simp only [params_cons, params_nil]
  refine awp_seq ?_
  refine zg ?_
  refine goes_done ?_
  (try simp only [vq, if_true, reduceIte, Nat.reduceEqDiff, reduceCtorEq])
  refine awp_hard (id := h.length) (by simp -implicitDefEqProofs; rfl) ?_
  simp -implicitDefEqProofs only [Slots.melt, AV.melt, Nat.add_left_cancel_iff, Nat.add_eq_left, Nat.left_eq_add, Nat.reduceEqDiff, reduceIte, Nat.succ_ne_self, Nat.one_ne_zero, Nat.zero_ne_one, List.set_append_right, List.set_append_left, Nat.sub_self, Nat.le_refl, Nat.add_sub_cancel_left, Nat.le_add_right, List.set_cons_zero, List.set_cons_succ]
  repeat (first | ((first | refine zd ?_ | refine zx ?_ | refine zk ?_ | refine zl ?_ | refine zr ?_); refine zq ?_) | refine zs ?_ | refine zg ?_ | refine zb ?_ | refine zo ?_ | refine zt ?_ | refine zf ?_)
  refine awp_loop (fun z st => ∃ (j : Nat), z = l.length - j ∧ j ≤ l.length ∧ (∀ y ∈ l.take j, y ≠ x) ∧ st.le ⟨Tryd.f39.ntmps, [(3, .ref [iv x.e, iv x.n, iv x.o] 0), (6, .list (l.map Iid.av) t), (0, .list (l.map Iid.av) t), (7, iv (l.length : Nat)), (8, iv (j : Nat))], h ++ [.dead]⟩) l.length ?_ ?_
  rotate_left
  rintro z st ⟨j, rfl, hj, hno, hle⟩
  · refine awp_le hle ?_
    clear hle
    by_cases h10 : j = l.length
    · subst h10
      have q5 : ¬ (l.length : Int) < (l.length : Int) := by omega
      rw [List.take_length] at hno
      have hc : l.contains x = false := by simpa using fun hx => hno x hx rfl
      repeat (first | ((first | refine zd ?_ | refine zx ?_ | refine zk ?_ | refine zl ?_ | refine zr ?_); refine zq ?_) | refine zs ?_ | refine zh (by simp -implicitDefEqProofs (disch := (first | omega | (simp; done) | fail)) [if_pos, if_neg, wrap_i64, tmod_pos, tdiv_pos, Int.toNat_add, q5]; rfl) ?_ | refine zb ?_ | refine zo ?_ | refine zt ?_ | refine zf ?_)
      first | refine zy (.inr rfl) ?_ | refine zy (.inl rfl) ?_
      exact ⟨⟨-1, rfl, by rw [hc]; rfl⟩, rfl⟩
    have hlt : j < l.length := by omega
    have q5 : (j : Int) < (l.length : Int) := by omega
    have hx3 : (l.map Iid.av)[j]? = some (Iid.av l[j]) := by simp [hlt]
    have htk2 : l.take (j + 1) = l.take j ++ [l[j]] := List.take_succ_eq_append_getElem hlt
    have hmem : l[j] ∈ l := List.getElem_mem hlt
    generalize l[j] = k at *
    have hlt2 : (j : Int) < 100000 := by omega
    clear hlt
    repeat (first | ((first | refine zd ?_ | refine zx ?_ | refine zk ?_ | refine zl ?_ | refine zr ?_); refine zq ?_) | refine zs ?_ | refine zh (by simp -implicitDefEqProofs (disch := (first | omega | (simp; done) | fail)) [if_pos, if_neg, wrap_i64, tmod_pos, tdiv_pos, Int.toNat_add, q5]; rfl) ?_ | refine zb ?_ | refine zo ?_ | refine zt ?_ | refine zf ?_)
    by_cases hk : x = k
    · subst hk
      have hc : l.contains x = true := by simpa using hmem
      refine awp_draw (.q 0 (.q 1 (.q 2 (.q 3 (.q 4 (.q 5 (.done))))))) (by kernel_rfl) (by kernel_rfl) (tree_start (goesT_eq (by simp -implicitDefEqProofs (disch := (first | omega | (simp; done) | fail)) [if_pos, if_neg, wrap_i64, tmod_pos, tdiv_pos, Int.toNat_add, hx3, hu, Iid.av, Iid.c]; rfl) ?_))
      refine goesT_done ?_
      (try simp only [vq, if_true, reduceIte, Nat.reduceEqDiff, reduceCtorEq])
      repeat (first | ((first | refine zd ?_ | refine zx ?_ | refine zk ?_ | refine zl ?_ | refine zr ?_); refine zq ?_) | refine zs ?_ | refine zg ?_ | refine zb ?_ | refine zo ?_ | refine zt ?_ | refine zf ?_)
      first | refine zy (.inr rfl) ?_ | refine zy (.inl rfl) ?_
      exact ⟨⟨j, rfl, by rw [hc]; simp⟩, rfl⟩
    · have he : (x.e == k.e && (x.n == k.n && x.o == k.o)) = false := by rw [eqb]; simpa using hk
      refine awp_draw (.q 0 (.q 1 (.q 2 (.q 3 (.q 4 (.q 5 (.done))))))) (by kernel_rfl) (by kernel_rfl) (tree_start (goesT_eq (by simp -implicitDefEqProofs (disch := (first | omega | (simp; done) | fail)) [if_pos, if_neg, wrap_i64, tmod_pos, tdiv_pos, Int.toNat_add, hx3, hu, Iid.av, Iid.c]; rfl) ?_))
      refine goesT_done ?_
      (try simp only [vq, if_true, reduceIte, Nat.reduceEqDiff, reduceCtorEq])
      refine awp_cond_f (by simp [he]) ?_
      repeat (first | ((first | refine zd ?_ | refine zx ?_ | refine zk ?_ | refine zl ?_ | refine zr ?_); refine zq ?_) | refine zs ?_ | refine zg ?_ | refine zb ?_ | refine zo ?_ | refine zt ?_ | refine zf ?_)
      refine ⟨l.length - (j + 1), by omega, j + 1, rfl, by omega, fun y hy => ?_, st_keep' (by simp []) (by simp [])⟩
      rw [htk2] at hy
      rcases List.mem_append.1 hy with hy | hy
      · exact hno y hy
      · simp at hy; rw [hy]; exact fun e => hk e.symm
  · exact ⟨0, rfl, by omega, by simp, st_keep' (by simp []) (by simp [])⟩
theorem contains_ok (l : List Iid) (x : Iid) (t : Tok) (hl : l.length ≤ 100000) (h : AHeap) : ACalls Tryd.prog 31 [.list (l.map Iid.av) t, Iid.av x] h fun r h' => r = .bool (l.contains x) ∧ h' = h := by
  have hi := fun h => index_ok l x .no hl h
  unfold Iid.av at hi ⊢
  rw [show (fun x => AV.agg (Iid.c x)) = Iid.av from rfl] at hi ⊢
  unfold Iid.c at hi ⊢
  refine acalls_of_awp Tryd.func31 rfl (by simp only [List.length_cons, List.length_nil]; decide) ?_
  simp only [params_cons, params_nil]
  repeat (first | ((first | refine zd ?_ | refine zx ?_ | refine zk ?_ | refine zl ?_ | refine zr ?_); refine zq ?_) | refine zs ?_ | refine zg ?_ | refine zb ?_ | refine zo ?_ | refine zt ?_ | refine zf ?_)
  refine zp (callable_of Tryd.func39) _ (hi _) ?_
  rintro _ _ ⟨⟨z, rfl, hz⟩, rfl⟩
  refine ze ?_
  rw [hz]
  repeat (first | ((first | refine zd ?_ | refine zx ?_ | refine zk ?_ | refine zl ?_ | refine zr ?_); refine zq ?_) | refine zs ?_ | refine zg ?_ | refine zb ?_ | refine zo ?_ | refine zt ?_ | refine zf ?_)
  first | refine zy (.inr rfl) ?_ | refine zy (.inl rfl) ?_
  simp
theorem has_ok (l : List Iid) (x : Iid) (t : Tok) (hl : l.length ≤ 100000) (h : AHeap) : ACalls Tryd.prog 17 [.list (l.map Iid.av) t, Iid.av x] h fun r h' => r = .bool (l.contains x) ∧ h' = h := by
  have hi := fun h => contains_ok l x .no hl h
  unfold Iid.av at hi ⊢
  rw [show (fun x => AV.agg (Iid.c x)) = Iid.av from rfl] at hi ⊢
  unfold Iid.c at hi ⊢
  refine acalls_of_awp Tryd.func17 rfl (by simp only [List.length_cons, List.length_nil]; decide) ?_
  simp only [params_cons, params_nil]
  repeat (first | ((first | refine zd ?_ | refine zx ?_ | refine zk ?_ | refine zl ?_ | refine zr ?_); refine zq ?_) | refine zs ?_ | refine zg ?_ | refine zb ?_ | refine zo ?_ | refine zt ?_ | refine zf ?_)
  refine zp (callable_of Tryd.func31) _ (hi _) ?_
  rintro _ _ ⟨rfl, rfl⟩
  refine ze ?_
  repeat (first | ((first | refine zd ?_ | refine zx ?_ | refine zk ?_ | refine zl ?_ | refine zr ?_); refine zq ?_) | refine zs ?_ | refine zg ?_ | refine zb ?_ | refine zo ?_ | refine zt ?_ | refine zf ?_)
  first | refine zy (.inr rfl) ?_ | refine zy (.inl rfl) ?_
  simp
def within (n m : Int) : Bool := decide (0 ≤ n ∧ n ≤ m)
theorem valid1_ok (n m : Int) (h : AHeap) : ACalls Tryd.prog 28 [iv n, iv m] h fun r h' => r = .bool (within n m) ∧ h' = h := by
  unfold within
  refine acalls_of_awp Tryd.func28 rfl (by simp only [List.length_cons, List.length_nil]; decide) ?_
  simp only [params_cons, params_nil]
  by_cases h1 : 0 ≤ n
  · by_cases h2 : n ≤ m
    · repeat (first | ((first | refine zd ?_ | refine zx ?_ | refine zk ?_ | refine zl ?_ | refine zr ?_); refine zq ?_) | refine zs ?_ | refine zh (by simp -implicitDefEqProofs (disch := (first | omega | (simp; done) | fail)) [if_pos, if_neg, wrap_i64, tmod_pos, tdiv_pos, Int.toNat_add, h1, h2]; rfl) ?_ | refine zb ?_ | refine zo ?_ | refine zt ?_ | refine zf ?_)
      first | refine zY (.inr rfl) ?_ | refine zY (.inl rfl) ?_
      simp [h1, h2]
    · repeat (first | ((first | refine zd ?_ | refine zx ?_ | refine zk ?_ | refine zl ?_ | refine zr ?_); refine zq ?_) | refine zs ?_ | refine zh (by simp -implicitDefEqProofs (disch := (first | omega | (simp; done) | fail)) [if_pos, if_neg, wrap_i64, tmod_pos, tdiv_pos, Int.toNat_add, h1, h2]; rfl) ?_ | refine zb ?_ | refine zo ?_ | refine zt ?_ | refine zf ?_)
      first | refine zY (.inr rfl) ?_ | refine zY (.inl rfl) ?_
      simp [h1, h2]
  · repeat (first | ((first | refine zd ?_ | refine zx ?_ | refine zk ?_ | refine zl ?_ | refine zr ?_); refine zq ?_) | refine zs ?_ | refine zh (by simp -implicitDefEqProofs (disch := (first | omega | (simp; done) | fail)) [if_pos, if_neg, wrap_i64, tmod_pos, tdiv_pos, Int.toNat_add, h1]; rfl) ?_ | refine zb ?_ | refine zo ?_ | refine zt ?_ | refine zf ?_)
    first | refine zY (.inr rfl) ?_ | refine zY (.inl rfl) ?_
    simp [h1]
def validB (x : Iid) : Bool := within x.e 1048576 && (within x.n 31 && within x.o 1099511627776)
theorem valid_ok (x : Iid) (h : AHeap) : ACalls Tryd.prog 11 [Iid.av x] h fun r h' => r = .bool (validB x) ∧ h' = h := by
  unfold Iid.av Iid.c validB
  refine acalls_of_awp Tryd.func11 rfl (by simp only [List.length_cons, List.length_nil]; decide) ?_
  simp only [params_cons, params_nil]
  repeat (first | ((first | refine zd ?_ | refine zx ?_ | refine zk ?_ | refine zl ?_ | refine zr ?_); refine zq ?_) | refine zs ?_ | refine zg ?_ | refine zb ?_ | refine zo ?_ | refine zt ?_ | refine zf ?_)
  refine zp (callable_of Tryd.func28) _ (valid1_ok x.e 1048576 _) ?_
  rintro _ _ ⟨rfl, rfl⟩
  cases within x.e 1048576 with
  | false =>
    refine ze ?_
    repeat (first | ((first | refine zd ?_ | refine zx ?_ | refine zk ?_ | refine zl ?_ | refine zr ?_); refine zq ?_) | refine zs ?_ | refine zg ?_ | refine zb ?_ | refine zo ?_ | refine zt ?_ | refine zf ?_)
    first | refine zy (.inr rfl) ?_ | refine zy (.inl rfl) ?_
    simp
  | true =>
    refine ze ?_
    refine zp (callable_of Tryd.func28) _ (valid1_ok x.n 31 _) ?_
    rintro _ _ ⟨rfl, rfl⟩
    cases within x.n 31 with
    | false =>
      refine ze ?_
      repeat (first | ((first | refine zd ?_ | refine zx ?_ | refine zk ?_ | refine zl ?_ | refine zr ?_); refine zq ?_) | refine zs ?_ | refine zg ?_ | refine zb ?_ | refine zo ?_ | refine zt ?_ | refine zf ?_)
      first | refine zy (.inr rfl) ?_ | refine zy (.inl rfl) ?_
      simp
    | true =>
      refine ze ?_
      refine zp (callable_of Tryd.func28) _ (valid1_ok x.o 1099511627776 _) ?_
      rintro _ _ ⟨rfl, rfl⟩
      refine ze ?_
      repeat (first | ((first | refine zd ?_ | refine zx ?_ | refine zk ?_ | refine zl ?_ | refine zr ?_); refine zq ?_) | refine zs ?_ | refine zg ?_ | refine zb ?_ | refine zo ?_ | refine zt ?_ | refine zf ?_)
      first | refine zy (.inr rfl) ?_ | refine zy (.inl rfl) ?_
      simp
end Go.Proofs.YtcppoojgekaaoaaDoor.I

/- Sets of instances: Right. -/
set_option linter.unusedVariables false
set_option linter.unusedSimpArgs false
set_option maxRecDepth 20000
namespace Go.Proofs.YtcppoojgekaaoaaDoor.I
open Go Go.Proofs.YtcppoojgekaaoaaDoor.V Go.RowKit
def rightB : List Iid → Bool
  | a :: b :: l => lessB a b && rightB (b :: l)
  | _ => true
instance (l : List Iid) : Decidable (Ris l) := by unfold Ris; infer_instance
theorem right_ris : ∀ (l : List Iid), rightB l = decide (Ris l)
  | [] => by simp [rightB, Ris]
  | [a] => by simp [rightB, Ris]
  | a :: b :: l => by
    rw [rightB, right_ris (b :: l), Bool.eq_iff_iff, Bool.and_eq_true, decide_eq_true_eq, decide_eq_true_eq]
    unfold Ris
    rw [List.pairwise_cons (a := a)]
    constructor
    · rintro ⟨h1, h2⟩
      refine ⟨fun x hx => ?_, h2⟩
      rcases List.mem_cons.1 hx with rfl | hx
      · exact h1
      · have := (List.pairwise_cons.1 h2).1 x hx
        simp [lessB] at h1 this ⊢
        omega
    · rintro ⟨h1, h2⟩
      exact ⟨h1 b (by simp), h2⟩
theorem right_short {l : List Iid} (h : l.length ≤ 1) : rightB l = true := by
  match l, h with
  | [], _ => rfl
  | [a], _ => rfl
theorem right_ok (l : List Iid) (t : Tok) (hl : l.length ≤ 100000) (h : AHeap) : ACalls Tryd.prog 15 [.list (l.map Iid.av) t] h fun r h' => r = .bool (rightB l) ∧ h' = h := by
  have hu : uni 3 (l.map Iid.av) = true := uni_map fun _ => rfl
  have hmax : (if (l.length : Int) - 1 < 0 then 0 else (l.length : Int) - 1) = ((l.length - 1 : Nat) : Int) := by split <;> omega
  refine acalls_of_awp Tryd.func15 rfl (by simp only [List.length_cons, List.length_nil]; decide) ?_
  simp only [params_cons, params_nil]
  repeat (first | ((first | refine zd ?_ | refine zx ?_ | refine zk ?_ | refine zl ?_ | refine zr ?_); refine zq ?_) | refine zs ?_ | refine zh (by simp -implicitDefEqProofs (disch := (first | omega | (simp; done) | fail)) [if_pos, if_neg, wrap_i64, tmod_pos, tdiv_pos, Int.toNat_add, hmax]; rfl) ?_ | refine zb ?_ | refine zo ?_ | refine zt ?_ | refine zf ?_)
  refine awp_loop (fun z st => ∃ (j : Nat), z = l.length - j ∧ j ≤ l.length - 1 ∧ rightB (l.drop j) = rightB l ∧ st.le ⟨Tryd.f15.ntmps, [(0, .list (l.map Iid.av) t), (7, iv ((l.length - 1 : Nat) : Int)), (8, iv (j : Nat))], h⟩) l.length ?_ ?_
  rotate_left
  rintro z st ⟨j, rfl, hj, hr, hle⟩
  · refine awp_le hle ?_
    clear hle
    by_cases h10 : j = l.length - 1
    · subst h10
      have q5 : ¬ ((l.length - 1 : Nat) : Int) < ((l.length - 1 : Nat) : Int) := by omega
      rw [right_short (by simp; omega)] at hr
      repeat (first | ((first | refine zd ?_ | refine zx ?_ | refine zk ?_ | refine zl ?_ | refine zr ?_); refine zq ?_) | refine zs ?_ | refine zh (by simp -implicitDefEqProofs (disch := (first | omega | (simp; done) | fail)) [if_pos, if_neg, wrap_i64, tmod_pos, tdiv_pos, Int.toNat_add, q5]; rfl) ?_ | refine zb ?_ | refine zo ?_ | refine zt ?_ | refine zf ?_)
      first | refine zY (.inr rfl) ?_ | refine zY (.inl rfl) ?_
      simp [← hr]
    have hlt : j < l.length := by omega
    have hlt1 : j + 1 < l.length := by omega
    have q5 : (j : Int) < ((l.length - 1 : Nat) : Int) := by omega
    have hx3 : (l.map Iid.av)[j]? = some (Iid.av l[j]) := by simp [hlt]
    have hx4 : (l.map Iid.av)[j + 1]? = some (Iid.av l[j + 1]) := by simp [hlt1]
    have hd : l.drop j = l[j] :: l[j + 1] :: l.drop (j + 2) := by rw [List.drop_eq_getElem_cons hlt, List.drop_eq_getElem_cons hlt1]
    have hd2 : l.drop (j + 1) = l[j + 1] :: l.drop (j + 2) := by rw [List.drop_eq_getElem_cons hlt1]
    rw [hd, rightB, ← hd2] at hr
    have q6 : (j : Int) < (l.length : Int) := by omega
    have q7 : (j : Int) + 1 < (l.length : Int) := by omega
    generalize l[j] = a at *
    generalize l[j + 1] = b at *
    clear hlt hlt1 hd hd2
    repeat (first | ((first | refine zd ?_ | refine zx ?_ | refine zk ?_ | refine zl ?_ | refine zr ?_); refine zq ?_) | refine zs ?_ | refine zh (by simp -implicitDefEqProofs (disch := (first | omega | (simp; done) | fail)) [if_pos, if_neg, wrap_i64, tmod_pos, tdiv_pos, Int.toNat_add, q5]; rfl) ?_ | refine zb ?_ | refine zo ?_ | refine zt ?_ | refine zf ?_)
    refine awp_draw (.q 0 (.q 1 (.q 2 (.q 3 (.q 4 (.q 5 (.q 6 (.q 7 (.q 8 (.a 9 (.q 10 (.done)))))))))))) (by kernel_rfl) (by kernel_rfl) (tree_start (goesT_eq (by simp -implicitDefEqProofs (disch := (first | omega | (simp; done) | fail)) [if_pos, if_neg, wrap_i64, tmod_pos, tdiv_pos, Int.toNat_add, hx3, hx4, hu, q6, q7, Iid.av, Iid.c]; rfl) ?_))
    have hless := fun h => less_ok a b h
    unfold Iid.av Iid.c at hless
    refine zP (callable_of Tryd.func9) _ (hless _) ?_
    rintro _ _ ⟨rfl, rfl⟩
    cases hab : lessB a b with
    | false =>
      rw [hab] at hr
      refine zE ?_
      refine goesT_done ?_
      (try simp only [vq, if_true, reduceIte, Nat.reduceEqDiff, reduceCtorEq])
      repeat (first | ((first | refine zd ?_ | refine zx ?_ | refine zk ?_ | refine zl ?_ | refine zr ?_); refine zq ?_) | refine zs ?_ | refine zg ?_ | refine zb ?_ | refine zo ?_ | refine zt ?_ | refine zf ?_)
      first | refine zY (.inr rfl) ?_ | refine zY (.inl rfl) ?_
      simp [← hr]
    | true =>
      rw [hab] at hr
      refine zE ?_
      refine goesT_done ?_
      (try simp only [vq, if_true, reduceIte, Nat.reduceEqDiff, reduceCtorEq])
      repeat (first | ((first | refine zd ?_ | refine zx ?_ | refine zk ?_ | refine zl ?_ | refine zr ?_); refine zq ?_) | refine zs ?_ | refine zg ?_ | refine zb ?_ | refine zo ?_ | refine zt ?_ | refine zf ?_)
      exact ⟨l.length - (j + 1), by omega, j + 1, rfl, by omega, by simpa using hr, st_keep' (by simp []) (by simp [])⟩
  · exact ⟨0, rfl, by omega, rfl, st_keep' (by simp []) (by simp [])⟩
end Go.Proofs.YtcppoojgekaaoaaDoor.I
