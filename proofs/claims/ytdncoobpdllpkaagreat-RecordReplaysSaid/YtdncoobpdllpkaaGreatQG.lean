import Derived.Test.YtdncoobpdllpkaaGreatQE
import Derived.Test.YtdncoobpdllpkaaGreatDE
import Derived.Test.YtdncoobpdllpkaaGreatV29
import Derived.Test.YtdncoobpdllpkaaGreatDD
import Derived.Test.YtdncoobpdllpkaaGreatV21
/- What a node knows, as the document has it: Replay, Next. -/
set_option linter.unusedVariables false
set_option linter.unusedSimpArgs false
set_option maxRecDepth 20000
namespace Go.Proofs.YtdncoobpdllpkaaGreat.Q
open Go Go.Proofs.YtdncoobpdllpkaaGreat.V Go.Proofs.YtdncoobpdllpkaaGreat.N Go.Proofs.YtdncoobpdllpkaaGreat.D Go.RowKit
attribute [local simp] strip_keys onev_s onev_bel
theorem rreplay_ok (x : Snap) (ls : List (List UInt8)) (t : Tok) (hl : ls.length ≤ 9999) (hf : ∀ b ∈ ls, b.length ≤ 100000) (h : AHeap) :
    ACalls Tryz.prog 7 [.agg x.c, .list (ls.map .str) t] h fun v h' => v = dv (repS (x, []) ls) ∧ h' = h := by
  unfold Snap.c
  refine acalls_of_awp Tryz.func7 rfl (by simp only [List.length_cons, List.length_nil]; decide) ?_
  simp only [params_cons, params_nil]
  refine awp_seq ?_
  refine awp_region' (run_start (goes_eq (by simp -implicitDefEqProofs (disch := (first | omega | (simp; done) | fail)) [if_pos, if_neg, wrap_i64, tmod_pos, tdiv_pos, Int.toNat_add, entv_s, sesv_s, iv_s]; rfl) ?_))
  refine goes_done ?_
  (try simp only [vq, if_true, reduceIte, Nat.reduceEqDiff, reduceCtorEq])
  refine awp_hard (id := h.length) (by simp -implicitDefEqProofs; rfl) ?_
  simp -implicitDefEqProofs only [Slots.melt, AV.melt, Nat.add_left_cancel_iff, Nat.add_eq_left, Nat.left_eq_add, Nat.reduceEqDiff, reduceIte, Nat.succ_ne_self, Nat.one_ne_zero, Nat.zero_ne_one, List.set_append_right, List.set_append_left, Nat.sub_self, Nat.le_refl, Nat.add_sub_cancel_left, Nat.le_add_right, List.set_cons_zero, List.set_cons_succ]
  repeat (first | ((first | refine goes_done ?_ | refine awp_exit ?_ | refine awp_skip ?_ | refine awp_label ?_ | refine awp_ret ?_); (try simp only [vq, if_true, reduceIte, Nat.reduceEqDiff, reduceCtorEq])) | refine awp_seq ?_ | refine awp_region' (run_start (goes_eq (by simp -implicitDefEqProofs (disch := (first | omega | (simp; done) | fail)) [if_pos, if_neg, wrap_i64, tmod_pos, tdiv_pos, Int.toNat_add, entv_s, sesv_s, iv_s]; rfl) ?_)) | refine awp_block ?_ | refine awp_scope ?_ | refine awp_cond_t rfl ?_ | refine awp_cond_f rfl ?_)
  refine awp_loop (fun z st => ∃ (i : Nat) (X : AHeap) (tk : Tok), z = ls.length - i ∧ i ≤ ls.length ∧ MRis (repS (x, []) (ls.take i)).2 ∧ (repS (x, []) (ls.take i)).2.length ≤ i ∧ st.le ⟨Tryz.f7.ntmps, [(1, .list (ls.map .str) t), (4, .ptr (h.length + 1) 0), (5, .ptr (h.length + 2) 0), (6, iv (i : Nat))], h ++ (.dead :: .cells zd :: .cells (dvc (repS (x, []) (ls.take i)).1 (repS (x, []) (ls.take i)).2 tk) :: X)⟩) ls.length ?_ ?_
  rotate_left
  rintro z st ⟨i, X, tk, rfl, hi, hM, hln, hle⟩
  · refine awp_le hle ?_
    clear hle
    unfold dvc zd
    by_cases h9 : i = ls.length
    · subst h9
      have q : ¬ (ls.length : Int) < (ls.length : Int) := by omega
      rw [List.take_length] at *
      generalize repS (x, []) ls = s2 at *
      repeat (first | ((first | refine goes_done ?_ | refine awp_exit ?_ | refine awp_skip ?_ | refine awp_label ?_ | refine awp_ret ?_); (try simp only [vq, if_true, reduceIte, Nat.reduceEqDiff, reduceCtorEq])) | refine awp_seq ?_ | refine awp_region' (run_start (goes_eq (by simp -implicitDefEqProofs (disch := (first | omega | (simp; done) | fail)) [if_pos, if_neg, wrap_i64, tmod_pos, tdiv_pos, Int.toNat_add, q, entv_s, sesv_s, iv_s]; rfl) ?_)) | refine awp_block ?_ | refine awp_scope ?_ | refine awp_cond_t rfl ?_ | refine awp_cond_f rfl ?_)
      first | refine body_pure (.inr rfl) (by simp -implicitDefEqProofs; rfl) (by simp -implicitDefEqProofs; rfl) (by simp) ?_ | refine body_pure (.inl rfl) (by simp -implicitDefEqProofs; rfl) (by simp -implicitDefEqProofs; rfl) (by simp) ?_
      simp [dv, dvc]
    have hlt : i < ls.length := by omega
    have q : (i : Int) < (ls.length : Int) := by omega
    have hx2 : (ls.map AV.str)[i]? = some (AV.str ls[i]) := by simp [hlt]
    have hb := hf ls[i] (List.getElem_mem hlt)
    have htk : repS (x, []) (ls.take (i + 1)) = stepS (repS (x, []) (ls.take i)) ls[i] := by rw [List.take_succ_eq_append_getElem hlt, repS, List.foldl_append]; rfl
    have hi1 : i + 1 ≤ ls.length := hlt
    have h21 : ls.length - (i + 1) < ls.length - i := by omega
    generalize ls[i] = b at *
    generalize repS (x, []) (ls.take i) = s1 at *
    have hsm := small_of b hb
    have hri := stepS_ris (b := b) hM
    have hrl := stepS_len s1 b
    have hst : stepS s1 b = if (whole rdRec .zero b).2 = 0 then addS s1 (whole rdRec .zero b).1 else s1 := rfl
    generalize stepS s1 b = s2 at *
    clear hlt
    repeat (first | ((first | refine goes_done ?_ | refine awp_exit ?_ | refine awp_skip ?_ | refine awp_label ?_ | refine awp_ret ?_); (try simp only [vq, if_true, reduceIte, Nat.reduceEqDiff, reduceCtorEq])) | refine awp_seq ?_ | refine awp_region' (run_start (goes_eq (by simp -implicitDefEqProofs (disch := (first | omega | (simp; done) | fail)) [if_pos, if_neg, wrap_i64, tmod_pos, tdiv_pos, Int.toNat_add, q, hx2, str_uni, AV.cells]; rfl) ?_)) | refine awp_block ?_ | refine awp_scope ?_ | refine awp_cond_t rfl ?_ | refine awp_cond_f rfl ?_)
    refine goes_callS (callable_of Tryz.func19) (by simp -implicitDefEqProofs (disch := (first | omega | (simp; done) | fail)) [if_pos, if_neg, wrap_i64, tmod_pos, tdiv_pos, Int.toNat_add] <;> first | rfl | omega) _ (iget_ok b hb _) ?_
    rintro _ _ ⟨rfl, rfl⟩
    generalize whole rdRec .zero b = pr at *
    obtain ⟨r, e⟩ := pr
    dsimp only at *
    by_cases he : e = 0
    · subst he
      rw [if_pos rfl] at hst
      subst hst
      refine goes_eq (by simp -implicitDefEqProofs (disch := (first | omega | (simp; done) | fail)) [if_pos, if_neg, wrap_i64, tmod_pos, tdiv_pos, Int.toNat_add, Rec.c]; rfl) ?_
      repeat (first | ((first | refine goes_done ?_ | refine awp_exit ?_ | refine awp_skip ?_ | refine awp_label ?_ | refine awp_ret ?_); (try simp only [vq, if_true, reduceIte, Nat.reduceEqDiff, reduceCtorEq])) | refine awp_seq ?_ | refine awp_region' (run_start (goes_eq (by simp -implicitDefEqProofs (disch := (first | omega | (simp; done) | fail)) [if_pos, if_neg, wrap_i64, tmod_pos, tdiv_pos, Int.toNat_add, Rec.c, entv_s, sesv_s, iv_s, idv_s]; rfl) ?_)) | refine awp_block ?_ | refine awp_scope ?_ | refine awp_cond_t rfl ?_ | refine awp_cond_f rfl ?_)
      refine goes_callS (callable_of Tryz.func20) (by simp -implicitDefEqProofs (disch := (first | omega | (simp; done) | fail)) [if_pos, if_neg, wrap_i64, tmod_pos, tdiv_pos, Int.toNat_add, dv, dvc, Rec.c] <;> first | rfl | omega) _ (radd_ok s1 r _ hM (by omega) hsm.lit.nodes) ?_
      rintro _ _ ⟨rfl, rfl⟩
      unfold dv dvc
      generalize addS s1 r = s3 at *
      refine goes_eq (by simp -implicitDefEqProofs (disch := (first | omega | (simp; done) | fail)) [if_pos, if_neg, wrap_i64, tmod_pos, tdiv_pos, Int.toNat_add]; rfl) ?_
      repeat (first | ((first | refine goes_done ?_ | refine awp_exit ?_ | refine awp_skip ?_ | refine awp_label ?_ | refine awp_ret ?_); (try simp only [vq, if_true, reduceIte, Nat.reduceEqDiff, reduceCtorEq])) | refine awp_seq ?_ | refine awp_region' (run_start (goes_eq (by simp -implicitDefEqProofs (disch := (first | omega | (simp; done) | fail)) [if_pos, if_neg, wrap_i64, tmod_pos, tdiv_pos, Int.toNat_add]; rfl) ?_)) | refine awp_block ?_ | refine awp_scope ?_ | refine awp_cond_t rfl ?_ | refine awp_cond_f rfl ?_)
      refine ⟨ls.length - (i + 1), h21, i + 1, X ++ [.cells r.c], .no, rfl, hi1, ?_⟩
      rw [htk]
      exact ⟨hri, by omega, st_keep' (by simp [Rec.c]) (by simp [Rec.c])⟩
    · have he2 : ((e : Int) == 0) = false := by simpa using he
      rw [if_neg he] at hst
      subst hst
      refine goes_eq (by simp -implicitDefEqProofs (disch := (first | omega | (simp; done) | fail)) [if_pos, if_neg, wrap_i64, tmod_pos, tdiv_pos, Int.toNat_add, Rec.c]; rfl) ?_
      repeat (first | ((first | refine goes_done ?_ | refine awp_exit ?_ | refine awp_skip ?_ | refine awp_label ?_ | refine awp_ret ?_); (try simp only [vq, if_true, reduceIte, Nat.reduceEqDiff, reduceCtorEq])) | refine awp_seq ?_ | refine awp_region' (run_start (goes_eq (by simp -implicitDefEqProofs (disch := (first | omega | (simp; done) | fail)) [if_pos, if_neg, wrap_i64, tmod_pos, tdiv_pos, Int.toNat_add, Rec.c, he2]; rfl) ?_)) | refine awp_block ?_ | refine awp_scope ?_ | refine awp_cond_t rfl ?_ | refine awp_cond_f rfl ?_)
      refine ⟨ls.length - (i + 1), h21, i + 1, X ++ [.cells r.c], tk, rfl, hi1, ?_⟩
      rw [htk]
      exact ⟨hri, by omega, st_keep' (by simp [Rec.c]) (by simp [Rec.c])⟩
  · exact ⟨0, [], .full, rfl, by omega, .nil, by simp [repS], st_keep' (by simp [dvc, zd, repS]) (by simp [dvc, zd, repS])⟩
theorem rnext_ok (s : SM) (node : Int) (hl : s.2.length ≤ 100000) (h : AHeap) : ACalls Tryz.prog 10 [dv s, iv node] h fun v h' => v = iv (nxI (s.2.map (·.1)) node) ∧ h' = h := by
  unfold dv dvc
  refine acalls_of_awp Tryz.func10 rfl (by simp only [List.length_cons, List.length_nil]; decide) ?_
  simp only [params_cons, params_nil]
  refine awp_seq ?_
  refine awp_region' (run_start (goes_eq (by simp -implicitDefEqProofs (disch := (first | omega | (simp; done) | fail)) [if_pos, if_neg, wrap_i64, tmod_pos, tdiv_pos, Int.toNat_add, entv_s, sesv_s, iv_s]; rfl) ?_))
  refine goes_done ?_
  (try simp only [vq, if_true, reduceIte, Nat.reduceEqDiff, reduceCtorEq])
  refine awp_hard (id := h.length) (by simp -implicitDefEqProofs; rfl) ?_
  simp -implicitDefEqProofs only [Slots.melt, AV.melt, Nat.add_left_cancel_iff, Nat.add_eq_left, Nat.left_eq_add, Nat.reduceEqDiff, reduceIte, Nat.succ_ne_self, Nat.one_ne_zero, Nat.zero_ne_one, List.set_append_right, List.set_append_left, Nat.sub_self, Nat.le_refl, Nat.add_sub_cancel_left, Nat.le_add_right, List.set_cons_zero, List.set_cons_succ]
  repeat (first | ((first | refine goes_done ?_ | refine awp_exit ?_ | refine awp_skip ?_ | refine awp_label ?_ | refine awp_ret ?_); (try simp only [vq, if_true, reduceIte, Nat.reduceEqDiff, reduceCtorEq])) | refine awp_seq ?_ | refine awp_region' (run_start (goes_eq (by simp -implicitDefEqProofs (disch := (first | omega | (simp; done) | fail)) [if_pos, if_neg, wrap_i64, tmod_pos, tdiv_pos, Int.toNat_add, entv_s, sesv_s, iv_s]; rfl) ?_)) | refine awp_block ?_ | refine awp_scope ?_ | refine awp_cond_t rfl ?_ | refine awp_cond_f rfl ?_)
  have hu := onev_uni s.2
  refine awp_loop (fun z st => ∃ (i : Nat), z = s.2.length - i ∧ i ≤ s.2.length ∧ st.le ⟨Tryz.f10.ntmps, [(1, iv node), (2, .ref (dvc s.1 s.2 .no) 0), (5, iv (nxI ((s.2.take i).map (·.1)) node)), (6, iv (i : Nat))], h ++ [.dead]⟩) s.2.length ?_ ?_
  rotate_left
  rintro z st ⟨i, rfl, hi, hle⟩
  · refine awp_le hle ?_
    clear hle
    unfold dvc
    by_cases h9 : i = s.2.length
    · subst h9
      have q : ¬ (s.2.length : Int) < (s.2.length : Int) := by omega
      rw [List.take_length] at *
      repeat (first | ((first | refine goes_done ?_ | refine awp_exit ?_ | refine awp_skip ?_ | refine awp_label ?_ | refine awp_ret ?_); (try simp only [vq, if_true, reduceIte, Nat.reduceEqDiff, reduceCtorEq])) | refine awp_seq ?_ | refine awp_region' (run_start (goes_eq (by simp -implicitDefEqProofs (disch := (first | omega | (simp; done) | fail)) [if_pos, if_neg, wrap_i64, tmod_pos, tdiv_pos, Int.toNat_add, q]; rfl) ?_)) | refine awp_block ?_ | refine awp_scope ?_ | refine awp_cond_t rfl ?_ | refine awp_cond_f rfl ?_)
      first | refine body_pure (.inr rfl) (by simp -implicitDefEqProofs; rfl) (by simp -implicitDefEqProofs; rfl) (by simp) ?_ | refine body_pure (.inl rfl) (by simp -implicitDefEqProofs; rfl) (by simp -implicitDefEqProofs; rfl) (by simp) ?_
      simp
    have hlt : i < s.2.length := by omega
    have q : (i : Int) < (s.2.length : Int) := by omega
    obtain ⟨p, hp⟩ : ∃ p, s.2[i]? = some p := ⟨s.2[i], by simp [hlt]⟩
    have hx2 : (s.2.map onev)[i]? = some (onev p) := by simp [hp]
    have htk : nxI ((s.2.take (i + 1)).map (·.1)) node = nxS node (nxI ((s.2.take i).map (·.1)) node) p.1 := by rw [List.take_add_one, hp, List.map_append, nxI, List.foldl_append]; rfl
    have hi1 : i + 1 ≤ s.2.length := hlt
    have h21 : s.2.length - (i + 1) < s.2.length - i := by omega
    generalize nxI ((s.2.take i).map (·.1)) node = n1 at *
    clear hlt hp
    by_cases hn : p.1.n = node
    · have hn2 : (p.1.n == node) = true := by simpa using hn
      rw [nxS, if_pos hn] at htk
      repeat (first | ((first | refine goes_done ?_ | refine awp_exit ?_ | refine awp_skip ?_ | refine awp_label ?_ | refine awp_ret ?_); (try simp only [vq, if_true, reduceIte, Nat.reduceEqDiff, reduceCtorEq])) | refine awp_seq ?_ | refine awp_region' (run_start (goes_eq (by simp -implicitDefEqProofs (disch := (first | omega | (simp; done) | fail)) [if_pos, if_neg, wrap_i64, tmod_pos, tdiv_pos, Int.toNat_add, q, hx2, hn2, hu, onev, onec, AV.cells]; rfl) ?_)) | refine awp_block ?_ | refine awp_scope ?_ | refine awp_cond_t rfl ?_ | refine awp_cond_f rfl ?_)
      refine ⟨s.2.length - (i + 1), h21, i + 1, rfl, hi1, ?_⟩
      rw [htk]
      exact st_keep' (by simp [dvc]) (by simp [dvc])
    · have hn2 : (p.1.n == node) = false := by simpa using hn
      rw [nxS, if_neg hn] at htk
      repeat (first | ((first | refine goes_done ?_ | refine awp_exit ?_ | refine awp_skip ?_ | refine awp_label ?_ | refine awp_ret ?_); (try simp only [vq, if_true, reduceIte, Nat.reduceEqDiff, reduceCtorEq])) | refine awp_seq ?_ | refine awp_region' (run_start (goes_eq (by simp -implicitDefEqProofs (disch := (first | omega | (simp; done) | fail)) [if_pos, if_neg, wrap_i64, tmod_pos, tdiv_pos, Int.toNat_add, q, hx2, hn2, hu, onev, onec, AV.cells]; rfl) ?_)) | refine awp_block ?_ | refine awp_scope ?_ | refine awp_cond_t rfl ?_ | refine awp_cond_f rfl ?_)
      refine ⟨s.2.length - (i + 1), h21, i + 1, rfl, hi1, ?_⟩
      rw [htk]
      exact st_keep' (by simp [dvc]) (by simp [dvc])
  · exact ⟨0, rfl, by omega, st_keep' (by simp [dvc, nxI]) (by simp [dvc, nxI])⟩
end Go.Proofs.YtdncoobpdllpkaaGreat.Q

/- What a node knows: whether it is what the document has. -/
set_option linter.unusedVariables false
set_option linter.unusedSimpArgs false
set_option maxRecDepth 20000
namespace Go.Proofs.YtdncoobpdllpkaaGreat.Q
open Go Go.Proofs.YtdncoobpdllpkaaGreat.V Go.Proofs.YtdncoobpdllpkaaGreat.N Go.Proofs.YtdncoobpdllpkaaGreat.D Go.RowKit Go.MapKept
attribute [local simp] strip_keys onev_s onev_bel
theorem aops_lenG {P : Program} {E : Env P} {ops : Array Oper} {o : Oper} {r : List Oper} {n : Nat} {s : Slots} {h : AHeap} {Q : ASt → Prop} {mty kt et : TypeId} {id clock : Nat} {es : List (AV × AV × Nat)} {m : Operand} (hop : o.op = .call ⟨.builtin .len, #[m], #[mty]⟩) (hg : guardB ops s o = .bool true)
    (hm : P.underlying mty = some (.map kt et)) (hx : Slots.ev s m = .map id) (ho : h[id]? = some (.map es clock))
    (q : AOps E ops r ⟨n, Slots.put n s o.dst (.int .i64 (es.length : Nat)), h⟩ Q) : AOps E ops (o :: r) ⟨n, s, h⟩ Q :=
  aops_oneG hg (aope_of_gives (s := fun a => Builtin.len_ #[mty] o.type #[a.eval m]) (fun a => by simp [execOp, hop, resolve, invoke, builtin]) (fun c => by rw [hop]; simp) fun w0 g w a ra S => by
    have rm := ra.ev m
    simp only at rm
    rw [hx] at rm
    exact ⟨_, _, q, len_map S hm ho rm⟩)
set_option maxHeartbeats 4000000 in
theorem lsame_ok (s : SM) (mid : Nat) (h : AHeap) (hs : Stt h s mid) (hM : MRis s.2) (hf : SFit s) (hl : s.2.length ≤ 9999) : ACalls Tryz.prog 8 [stv s mid, dv s] h fun v h' => v = .bool true ∧ h' = h := by
  obtain ⟨es, clock, ho, hR⟩ := hs
  have hlt0 := (List.getElem?_eq_some_iff.1 ho).1
  unfold stv sv dv dvc
  refine acalls_of_awp Tryz.func8 rfl (by simp only [List.length_cons, List.length_nil]; decide) ?_
  simp only [params_cons, params_nil]
  refine awp_seq ?_
  refine awp_region' (run_start (goes_eq (by simp -implicitDefEqProofs (disch := (first | omega | (simp; done) | fail)) [if_pos, if_neg, wrap_i64, tmod_pos, tdiv_pos, Int.toNat_add, entv_s, sesv_s, iv_s, idv_s]; rfl) ?_))
  refine goes_done ?_
  (try simp only [vq, if_true, reduceIte, Nat.reduceEqDiff, reduceCtorEq])
  refine awp_hard (id := h.length) (by simp -implicitDefEqProofs; rfl) ?_
  simp -implicitDefEqProofs only [Slots.melt, AV.melt, Nat.add_left_cancel_iff, Nat.add_eq_left, Nat.left_eq_add, Nat.reduceEqDiff, reduceIte, Nat.succ_ne_self, Nat.one_ne_zero, Nat.zero_ne_one, List.set_append_right, List.set_append_left, Nat.sub_self, Nat.le_refl, Nat.add_sub_cancel_left, Nat.le_add_right, List.set_cons_zero, List.set_cons_succ]
  refine awp_hard (id := h.length + 1) (by simp -implicitDefEqProofs; rfl) ?_
  simp -implicitDefEqProofs only [Slots.melt, AV.melt, Nat.add_left_cancel_iff, Nat.add_eq_left, Nat.left_eq_add, Nat.reduceEqDiff, reduceIte, Nat.succ_ne_self, Nat.one_ne_zero, Nat.zero_ne_one, List.set_append_right, List.set_append_left, Nat.sub_self, Nat.le_refl, Nat.add_sub_cancel_left, Nat.le_add_right, List.set_cons_zero, List.set_cons_succ]
  refine awp_seq ?_
  refine awp_seq ?_
  refine awp_region_at 10 rfl rfl ?_
  refine run_start (goes_eq (by simp -implicitDefEqProofs (disch := (first | omega | (simp; done) | fail)) [if_pos, if_neg, wrap_i64, tmod_pos, tdiv_pos, Int.toNat_add]; rfl) ?_)
  refine goes_done ?_
  refine aops_lenG (id := mid) (es := es.map fun p => (Iid.av p.1, p.2.1, p.2.2)) (clock := clock) rfl (by rfl) Tryz.underlying35 rfl (by rw [List.getElem?_append_left hlt0]; exact ho) ?_
  rw [List.length_map, hR.len]
  refine aops_end ?_
  refine run_start (goes_eq (by simp -implicitDefEqProofs (disch := (first | omega | (simp; done) | fail)) [if_pos, if_neg, wrap_i64, tmod_pos, tdiv_pos, Int.toNat_add, entv_s, sesv_s, iv_s]; rfl) ?_)
  refine goes_callS (callable_of Tryz.func12) (by simp -implicitDefEqProofs (disch := (first | omega | (simp; done) | fail)) [if_pos, if_neg, wrap_i64, tmod_pos, tdiv_pos, Int.toNat_add, Snap.c, entv_s, sesv_s, iv_s] <;> first | rfl | omega) _ (rsnap_ok s.1 s.1 hf.lit hf.lit _) ?_
  rintro _ _ ⟨rfl, rfl⟩
  refine goes_eq (by simp -implicitDefEqProofs (disch := (first | omega | (simp; done) | fail)) [if_pos, if_neg, wrap_i64, tmod_pos, tdiv_pos, Int.toNat_add]; rfl) ?_
  refine goes_done ?_
  (try simp only [vq, if_true, reduceIte, Nat.reduceEqDiff, reduceCtorEq])
  repeat (first | ((first | refine goes_done ?_ | refine awp_exit ?_ | refine awp_skip ?_ | refine awp_label ?_ | refine awp_ret ?_); (try simp only [vq, if_true, reduceIte, Nat.reduceEqDiff, reduceCtorEq])) | refine awp_seq ?_ | refine awp_region' (run_start (goes_eq (by simp -implicitDefEqProofs (disch := (first | omega | (simp; done) | fail)) [if_pos, if_neg, wrap_i64, tmod_pos, tdiv_pos, Int.toNat_add]; rfl) ?_)) | refine awp_block ?_ | refine awp_scope ?_ | refine awp_cond_t rfl ?_ | refine awp_cond_f rfl ?_)
  obtain ⟨z, hz⟩ := zero_inst
  have hu := onev_uni s.2
  have hu2 : uni 3 (s.2.map (Iid.av ∘ fun x => x.1)) = true := uni_map fun _ => rfl
  refine awp_loop (fun z st => ∃ (i : Nat), z = s.2.length - i ∧ i ≤ s.2.length ∧ st.le ⟨Tryz.f8.ntmps, [(2, .ref (stc s mid) 0), (3, .ref (dvc s.1 s.2 .no) 0), (4, .bool false), (5, iv (i : Nat))], h ++ [.dead, .dead]⟩) s.2.length ?_ ?_
  rotate_left
  rintro z st ⟨i, rfl, hi, hle⟩
  · refine awp_le hle ?_
    clear hle
    unfold stc dvc
    by_cases h9 : i = s.2.length
    · subst h9
      have q : ¬ (s.2.length : Int) < (s.2.length : Int) := by omega
      repeat (first | ((first | refine goes_done ?_ | refine awp_exit ?_ | refine awp_skip ?_ | refine awp_label ?_ | refine awp_ret ?_); (try simp only [vq, if_true, reduceIte, Nat.reduceEqDiff, reduceCtorEq])) | refine awp_seq ?_ | refine awp_region' (run_start (goes_eq (by simp -implicitDefEqProofs (disch := (first | omega | (simp; done) | fail)) [if_pos, if_neg, wrap_i64, tmod_pos, tdiv_pos, Int.toNat_add, q]; rfl) ?_)) | refine awp_block ?_ | refine awp_scope ?_ | refine awp_cond_t rfl ?_ | refine awp_cond_f rfl ?_)
      first | refine body_pure (.inr rfl) (by simp -implicitDefEqProofs; rfl) (by simp -implicitDefEqProofs; rfl) (by simp) ?_ | refine body_pure (.inl rfl) (by simp -implicitDefEqProofs; rfl) (by simp -implicitDefEqProofs; rfl) (by simp) ?_
      simp
    have hlt : i < s.2.length := by omega
    have q : (i : Int) < (s.2.length : Int) := by omega
    obtain ⟨p, hp⟩ : ∃ p, s.2[i]? = some p := ⟨s.2[i], by simp [hlt]⟩
    have hx2 : (s.2.map onev)[i]? = some (onev p) := by simp [hp]
    have hx3 : (s.2.map (Iid.av ∘ fun x => x.1))[i]? = some (Iid.av p.1) := by simp [hp]
    have hi1 : i + 1 ≤ s.2.length := hlt
    have h21 : s.2.length - (i + 1) < s.2.length - i := by omega
    have hdp := hf.deps p (List.mem_of_getElem? hp)
    have hk := getM_at hM (List.mem_of_getElem? hp)
    have hl1 := hR.look hk z
    clear hlt hp
    obtain ⟨k, y⟩ := p
    dsimp only at *
    refine awp_seq ?_
    refine awp_seq ?_
    refine awp_region' (run_start (goes_eq (by simp -implicitDefEqProofs (disch := (first | omega | (simp; done) | fail)) [if_pos, if_neg, wrap_i64, tmod_pos, tdiv_pos, Int.toNat_add, q]; rfl) ?_))
    refine goes_done ?_
    (try simp only [vq, if_true, reduceIte, Nat.reduceEqDiff, reduceCtorEq])
    refine awp_cond_t rfl ?_
    refine awp_skip ?_
    simp only [vq, if_true, reduceIte, Nat.reduceEqDiff, reduceCtorEq]
    refine awp_seq ?_
    refine awp_block ?_
    refine awp_seq ?_
    refine awp_drawS (graft (.a 21 (.a 28 (.q 29 (.q 30 .done)))) (.q 0 (.q 1 (.q 2 (.q 3 (.q 4 (.q 5 (.q 6 (.q 7 (.q 8 (.q 9 (.q 10 (.q 11 (.q 12 (.q 13 (.q 14 (.q 15 (.q 16 (.q 17 (.q 18 (.q 19 (.q 20 (.q 22 (.q 23 (.q 24 (.q 25 (.q 26 (.q 27 .done)))))))))))))))))))))))))))) (by kernel_rfl) (by kernel_rfl) (tree_graft (tree_start (goesT_eq (by simp -implicitDefEqProofs (disch := (first | omega | (simp; done) | fail)) [if_pos, if_neg, hx2, hx3, hu, hu2, onev, onec, Iid.av, Iid.c, AV.cells]; rfl) ?_)))
    refine goesT_done ?_
    refine aats_look (id := mid) (es := es) (clock := clock) (k := k) (z := z) I.iid_key rfl rfl rfl Tryz.underlying35 hz rfl rfl (by rw [List.getElem?_append_left hlt0]; exact ho) ?_
    rw [hl1]
    refine tree_s (tree_start (goesT_eq (by simp -implicitDefEqProofs (disch := (first | omega | (simp; done) | fail)) [if_pos, if_neg, Inst.c, idv_s]; rfl) ?_))
    refine goesT_callS (callable_of Tryz.func21) (by simp -implicitDefEqProofs (disch := (first | omega | (simp; done) | fail)) [if_pos, if_neg, wrap_i64, tmod_pos, tdiv_pos, Int.toNat_add, Inst.c, idv_s] <;> first | rfl | omega) _ (inst_refl y hdp _) ?_
    rintro _ _ ⟨rfl, rfl⟩
    refine goesT_eq (by simp -implicitDefEqProofs (disch := (first | omega | (simp; done) | fail)) [if_pos, if_neg, wrap_i64, tmod_pos, tdiv_pos, Int.toNat_add]; rfl) ?_
    refine goesT_done ?_
    (try simp only [vq, if_true, reduceIte, Nat.reduceEqDiff, reduceCtorEq])
    repeat (first | ((first | refine goes_done ?_ | refine awp_exit ?_ | refine awp_skip ?_ | refine awp_label ?_ | refine awp_ret ?_); (try simp only [vq, if_true, reduceIte, Nat.reduceEqDiff, reduceCtorEq])) | refine awp_seq ?_ | refine awp_region' (run_start (goes_eq (by simp -implicitDefEqProofs (disch := (first | omega | (simp; done) | fail)) [if_pos, if_neg, wrap_i64, tmod_pos, tdiv_pos, Int.toNat_add]; rfl) ?_)) | refine awp_block ?_ | refine awp_scope ?_ | refine awp_cond_t rfl ?_ | refine awp_cond_f rfl ?_)
    exact ⟨s.2.length - (i + 1), h21, i + 1, rfl, hi1, st_keep' (by simp [stc, dvc]) (by simp [stc, dvc])⟩
  · exact ⟨0, rfl, by omega, st_keep' (by simp [stc, dvc]) (by simp [stc, dvc])⟩
end Go.Proofs.YtdncoobpdllpkaaGreat.Q

/- The law RecordReplays: what bytes tell is just what the document says. -/
set_option linter.unusedVariables false
set_option linter.unusedSimpArgs false
set_option maxRecDepth 20000
namespace Go.Proofs.YtdncoobpdllpkaaGreat.Q
open Go Go.Proofs.YtdncoobpdllpkaaGreat.V Go.Proofs.YtdncoobpdllpkaaGreat.N Go.Proofs.YtdncoobpdllpkaaGreat.D Go.RowKit Go.MapKept Go.WideShapes
attribute [local simp] strip_keys onev_s onev_bel
set_option maxHeartbeats 4000000 in
theorem recordReplays (x y : Snap) (la : List (List UInt8)) (ta : Tok) (node : Int) (h : AHeap) : ACalls Tryz.prog 3 [.agg x.c, .list (la.map .str) ta, iv node, .agg y.c] h fun r h' => r = .bool true ∧ h' = h := by
  have sx := snap_strip x
  have sy := snap_strip y
  refine acalls_of_awp Tryz.func3 rfl (by simp only [List.length_cons, List.length_nil]; decide) ?_
  simp only [params_cons, params_nil]
  refine awp_seq ?_
  refine awp_region' (run_start (goes_eq (by simp -implicitDefEqProofs (disch := (first | omega | (simp; done) | fail)) [if_pos, if_neg, wrap_i64, tmod_pos, tdiv_pos, Int.toNat_add]; rfl) ?_))
  refine goes_done ?_
  (try simp only [vq, if_true, reduceIte, Nat.reduceEqDiff, reduceCtorEq])
  refine awp_hard (id := h.length) (by simp -implicitDefEqProofs; rfl) ?_
  simp -implicitDefEqProofs only [Slots.melt, AV.melt, Nat.add_left_cancel_iff, Nat.add_eq_left, Nat.left_eq_add, Nat.reduceEqDiff, reduceIte, Nat.succ_ne_self, Nat.one_ne_zero, Nat.zero_ne_one, List.set_append_right, List.set_append_left, Nat.sub_self, Nat.le_refl, Nat.add_sub_cancel_left, Nat.le_add_right, List.set_cons_zero, List.set_cons_succ]
  refine awp_hard (id := h.length + 1) (by simp -implicitDefEqProofs; rfl) ?_
  simp -implicitDefEqProofs only [Slots.melt, AV.melt, Nat.add_left_cancel_iff, Nat.add_eq_left, Nat.left_eq_add, Nat.reduceEqDiff, reduceIte, Nat.succ_ne_self, Nat.one_ne_zero, Nat.zero_ne_one, List.set_append_right, List.set_append_left, Nat.sub_self, Nat.le_refl, Nat.add_sub_cancel_left, Nat.le_add_right, List.set_cons_zero, List.set_cons_succ]
  simp only [Snap.c]
  repeat (first | ((first | refine goes_done ?_ | refine awp_exit ?_ | refine awp_skip ?_ | refine awp_label ?_ | refine awp_ret ?_); (try simp only [vq, if_true, reduceIte, Nat.reduceEqDiff, reduceCtorEq])) | refine awp_seq ?_ | refine awp_region' (run_start (goes_eq (by simp -implicitDefEqProofs (disch := (first | omega | (simp; done) | fail)) [if_pos, if_neg, wrap_i64, tmod_pos, tdiv_pos, Int.toNat_add]; rfl) ?_)) | refine awp_block ?_ | refine awp_scope ?_ | refine awp_cond_t rfl ?_ | refine awp_cond_f rfl ?_)
  refine goes_callS (callable_of Tryz.func4) (by simp -implicitDefEqProofs (disch := (first | omega | (simp; done) | fail)) [if_pos, if_neg, wrap_i64, tmod_pos, tdiv_pos, Int.toNat_add] <;> first | rfl | omega) _ (works_ok _) ?_
  rintro _ _ ⟨rfl, rfl⟩
  refine goes_eq (by simp -implicitDefEqProofs (disch := (first | omega | (simp; done) | fail)) [if_pos, if_neg, wrap_i64, tmod_pos, tdiv_pos, Int.toNat_add]; rfl) ?_
  repeat (first | ((first | refine goes_done ?_ | refine awp_exit ?_ | refine awp_skip ?_ | refine awp_label ?_ | refine awp_ret ?_); (try simp only [vq, if_true, reduceIte, Nat.reduceEqDiff, reduceCtorEq])) | refine awp_seq ?_ | refine awp_region' (run_start (goes_eq (by simp -implicitDefEqProofs (disch := (first | omega | (simp; done) | fail)) [if_pos, if_neg, wrap_i64, tmod_pos, tdiv_pos, Int.toNat_add, entv_s, sesv_s, iv_s]; rfl) ?_)) | refine awp_block ?_ | refine awp_scope ?_ | refine awp_cond_t rfl ?_ | refine awp_cond_f rfl ?_)
  refine goes_callS (callable_of Tryz.func5) (by simp -implicitDefEqProofs (disch := (first | omega | (simp; done) | fail)) [if_pos, if_neg, wrap_i64, tmod_pos, tdiv_pos, Int.toNat_add, Snap.c, entv_s, sesv_s, iv_s] <;> first | rfl | omega) _ (little_ok x _) ?_
  rintro _ _ ⟨⟨l1, rfl, hl1⟩, rfl⟩
  cases l1 with
  | false =>
    refine goes_eq (by simp -implicitDefEqProofs (disch := (first | omega | (simp; done) | fail)) [if_pos, if_neg, wrap_i64, tmod_pos, tdiv_pos, Int.toNat_add]; rfl) ?_
    by_cases p1 : (30 : Int) < (la.length : Int)
    · repeat (first | ((first | refine goes_done ?_ | refine awp_exit ?_ | refine awp_skip ?_ | refine awp_label ?_ | refine awp_ret ?_); (try simp only [vq, if_true, reduceIte, Nat.reduceEqDiff, reduceCtorEq])) | refine awp_seq ?_ | refine awp_region' (run_start (goes_eq (by simp -implicitDefEqProofs (disch := (first | omega | (simp; done) | fail)) [if_pos, if_neg, wrap_i64, tmod_pos, tdiv_pos, Int.toNat_add, p1]; rfl) ?_)) | refine awp_block ?_ | refine awp_scope ?_ | refine awp_cond_t rfl ?_ | refine awp_cond_f rfl ?_)
      first | refine body_pure (.inr rfl) (by simp -implicitDefEqProofs; rfl) (by simp -implicitDefEqProofs; rfl) (by simp) ?_ | refine body_pure (.inl rfl) (by simp -implicitDefEqProofs; rfl) (by simp -implicitDefEqProofs; rfl) (by simp) ?_
      simp
    · repeat (first | ((first | refine goes_done ?_ | refine awp_exit ?_ | refine awp_skip ?_ | refine awp_label ?_ | refine awp_ret ?_); (try simp only [vq, if_true, reduceIte, Nat.reduceEqDiff, reduceCtorEq])) | refine awp_seq ?_ | refine awp_region' (run_start (goes_eq (by simp -implicitDefEqProofs (disch := (first | omega | (simp; done) | fail)) [if_pos, if_neg, wrap_i64, tmod_pos, tdiv_pos, Int.toNat_add, p1]; rfl) ?_)) | refine awp_block ?_ | refine awp_scope ?_ | refine awp_cond_t rfl ?_ | refine awp_cond_f rfl ?_)
      first | refine body_pure (.inr rfl) (by simp -implicitDefEqProofs; rfl) (by simp -implicitDefEqProofs; rfl) (by simp) ?_ | refine body_pure (.inl rfl) (by simp -implicitDefEqProofs; rfl) (by simp -implicitDefEqProofs; rfl) (by simp) ?_
      simp
  | true =>
  have lx := hl1 rfl
  clear hl1
  refine goes_eq (by simp -implicitDefEqProofs (disch := (first | omega | (simp; done) | fail)) [if_pos, if_neg, wrap_i64, tmod_pos, tdiv_pos, Int.toNat_add]; rfl) ?_
  repeat (first | ((first | refine goes_done ?_ | refine awp_exit ?_ | refine awp_skip ?_ | refine awp_label ?_ | refine awp_ret ?_); (try simp only [vq, if_true, reduceIte, Nat.reduceEqDiff, reduceCtorEq])) | refine awp_seq ?_ | refine awp_region' (run_start (goes_eq (by simp -implicitDefEqProofs (disch := (first | omega | (simp; done) | fail)) [if_pos, if_neg, wrap_i64, tmod_pos, tdiv_pos, Int.toNat_add, entv_s, sesv_s, iv_s]; rfl) ?_)) | refine awp_block ?_ | refine awp_scope ?_ | refine awp_cond_t rfl ?_ | refine awp_cond_f rfl ?_)
  refine goes_callS (callable_of Tryz.func5) (by simp -implicitDefEqProofs (disch := (first | omega | (simp; done) | fail)) [if_pos, if_neg, wrap_i64, tmod_pos, tdiv_pos, Int.toNat_add, Snap.c, entv_s, sesv_s, iv_s] <;> first | rfl | omega) _ (little_ok y _) ?_
  rintro _ _ ⟨⟨l2, rfl, hl2⟩, rfl⟩
  by_cases p1 : (30 : Int) < (la.length : Int)
  · refine goes_eq (by simp -implicitDefEqProofs (disch := (first | omega | (simp; done) | fail)) [if_pos, if_neg, wrap_i64, tmod_pos, tdiv_pos, Int.toNat_add, p1]; rfl) ?_
    repeat (first | ((first | refine goes_done ?_ | refine awp_exit ?_ | refine awp_skip ?_ | refine awp_label ?_ | refine awp_ret ?_); (try simp only [vq, if_true, reduceIte, Nat.reduceEqDiff, reduceCtorEq])) | refine awp_seq ?_ | refine awp_region' (run_start (goes_eq (by simp -implicitDefEqProofs (disch := (first | omega | (simp; done) | fail)) [if_pos, if_neg, wrap_i64, tmod_pos, tdiv_pos, Int.toNat_add, p1]; rfl) ?_)) | refine awp_block ?_ | refine awp_scope ?_ | refine awp_cond_t rfl ?_ | refine awp_cond_f rfl ?_)
    first | refine body_pure (.inr rfl) (by simp -implicitDefEqProofs; rfl) (by simp -implicitDefEqProofs; rfl) (by simp) ?_ | refine body_pure (.inl rfl) (by simp -implicitDefEqProofs; rfl) (by simp -implicitDefEqProofs; rfl) (by simp) ?_
    simp
  cases l2 with
  | false =>
    refine goes_eq (by simp -implicitDefEqProofs (disch := (first | omega | (simp; done) | fail)) [if_pos, if_neg, wrap_i64, tmod_pos, tdiv_pos, Int.toNat_add, p1]; rfl) ?_
    repeat (first | ((first | refine goes_done ?_ | refine awp_exit ?_ | refine awp_skip ?_ | refine awp_label ?_ | refine awp_ret ?_); (try simp only [vq, if_true, reduceIte, Nat.reduceEqDiff, reduceCtorEq])) | refine awp_seq ?_ | refine awp_region' (run_start (goes_eq (by simp -implicitDefEqProofs (disch := (first | omega | (simp; done) | fail)) [if_pos, if_neg, wrap_i64, tmod_pos, tdiv_pos, Int.toNat_add, p1]; rfl) ?_)) | refine awp_block ?_ | refine awp_scope ?_ | refine awp_cond_t rfl ?_ | refine awp_cond_f rfl ?_)
    first | refine body_pure (.inr rfl) (by simp -implicitDefEqProofs; rfl) (by simp -implicitDefEqProofs; rfl) (by simp) ?_ | refine body_pure (.inl rfl) (by simp -implicitDefEqProofs; rfl) (by simp -implicitDefEqProofs; rfl) (by simp) ?_
    simp
  | true =>
  have ly := hl2 rfl
  clear hl2
  refine goes_eq (by simp -implicitDefEqProofs (disch := (first | omega | (simp; done) | fail)) [if_pos, if_neg, wrap_i64, tmod_pos, tdiv_pos, Int.toNat_add, p1]; rfl) ?_
  repeat (first | ((first | refine goes_done ?_ | refine awp_exit ?_ | refine awp_skip ?_ | refine awp_label ?_ | refine awp_ret ?_); (try simp only [vq, if_true, reduceIte, Nat.reduceEqDiff, reduceCtorEq])) | refine awp_seq ?_ | refine awp_region' (run_start (goes_eq (by simp -implicitDefEqProofs (disch := (first | omega | (simp; done) | fail)) [if_pos, if_neg, wrap_i64, tmod_pos, tdiv_pos, Int.toNat_add, p1]; rfl) ?_)) | refine awp_block ?_ | refine awp_scope ?_ | refine awp_cond_t rfl ?_ | refine awp_cond_f rfl ?_)
  refine awp_loop (fun z st => ∃ (i : Nat) (X : AHeap) (tok : Tok), z = la.length - i ∧ i ≤ la.length ∧ (∀ c ∈ la.take i, c.length ≤ 3000) ∧ TokAt h.length 2 X 33 1 tok ∧ st.le ⟨Tryz.f3.ntmps, [(1, .list (la.map .str) ta), (2, iv node), (4, .ref x.c 0), (7, .ref y.c 0), (8, .bool false), (9, .bool true), (11, .list ((la.take i).map byl) tok), (12, iv (i : Nat))], h ++ .dead :: .dead :: X⟩) la.length ?_ ?_
  rotate_left
  rintro z st ⟨i, X, tok, rfl, hi, hsm, ht, hle⟩
  · refine awp_le hle ?_
    clear hle
    by_cases h9 : i = la.length
    · subst h9
      have q : ¬ (la.length : Int) < (la.length : Int) := by omega
      rw [List.take_length] at *
      simp only [Snap.c]
      repeat (first | ((first | refine goes_done ?_ | refine awp_exit ?_ | refine awp_skip ?_ | refine awp_label ?_ | refine awp_ret ?_); (try simp only [vq, if_true, reduceIte, Nat.reduceEqDiff, reduceCtorEq])) | refine awp_seq ?_ | refine awp_region' (run_start (goes_eq (by simp -implicitDefEqProofs (disch := (first | omega | (simp; done) | fail)) [if_pos, if_neg, wrap_i64, tmod_pos, tdiv_pos, Int.toNat_add, q]; rfl) ?_)) | refine awp_block ?_ | refine awp_scope ?_ | refine awp_cond_t rfl ?_ | refine awp_cond_f rfl ?_)
      have f0 : SFit (x, []) := ⟨lx, fun q hq => by simp at hq⟩
      have fa : ∀ b ∈ la, b.length ≤ 100000 := fun b hb => by have := hsm b hb; omega
      refine goes_callS (callable_of Tryz.func6) (by simp -implicitDefEqProofs (disch := (first | omega | (simp; done) | fail)) [if_pos, if_neg, wrap_i64, tmod_pos, tdiv_pos, Int.toNat_add, Snap.c, entv_s, sesv_s, iv_s] <;> first | rfl | omega) _ (replay_ok x la .no (by omega) (fun b hb => fit_of (fa b hb)) _) ?_
      rintro _ _ ⟨X2, m, rfl, rfl, hS, hM⟩
      have hrr := fun h => rreplay_ok x la .no (by omega) fa h
      have f1 := repS_fit f0 la fa
      have g1 := repS_len (x, []) la
      have g2 : (repS (x, []) la).2.length ≤ 30 := by simp at g1; omega
      clear g1
      generalize repS (x, []) la = s1 at *
      refine goes_eq (by simp -implicitDefEqProofs (disch := (first | omega | (simp; done) | fail)) [if_pos, if_neg, wrap_i64, tmod_pos, tdiv_pos, Int.toNat_add, stv, sv]; rfl) ?_
      repeat (first | ((first | refine goes_done ?_ | refine awp_exit ?_ | refine awp_skip ?_ | refine awp_label ?_ | refine awp_ret ?_); (try simp only [vq, if_true, reduceIte, Nat.reduceEqDiff, reduceCtorEq])) | refine awp_seq ?_ | refine awp_region' (run_start (goes_eq (by simp -implicitDefEqProofs (disch := (first | omega | (simp; done) | fail)) [if_pos, if_neg, wrap_i64, tmod_pos, tdiv_pos, Int.toNat_add, stv, sv, entv_s, sesv_s, iv_s]; rfl) ?_)) | refine awp_block ?_ | refine awp_scope ?_ | refine awp_cond_t rfl ?_ | refine awp_cond_f rfl ?_)
      refine goes_callS (callable_of Tryz.func7) (by simp -implicitDefEqProofs (disch := (first | omega | (simp; done) | fail)) [if_pos, if_neg, wrap_i64, tmod_pos, tdiv_pos, Int.toNat_add, Snap.c, entv_s, sesv_s, iv_s] <;> first | rfl | omega) _ (hrr _) ?_
      rintro _ _ ⟨rfl, rfl⟩
      refine goes_eq (by simp -implicitDefEqProofs (disch := (first | omega | (simp; done) | fail)) [if_pos, if_neg, wrap_i64, tmod_pos, tdiv_pos, Int.toNat_add, dv, dvc]; rfl) ?_
      refine goes_done ?_
      (try simp only [vq, if_true, reduceIte, Nat.reduceEqDiff, reduceCtorEq])
      obtain ⟨Z2, hZ2⟩ : ∃ Z2, Z2 = AObj.dead :: AObj.dead :: (X ++ (X2 ++ [AObj.cells (stc s1 m), AObj.cells (dvc s1.1 s1.2 .no)])) := ⟨_, rfl⟩
      obtain ⟨p, hp⟩ : ∃ p, p = X.length + X2.length + 1 + 1 := ⟨_, rfl⟩
      obtain ⟨pq, hpq⟩ : ∃ pq, pq = X.length + (X2.length + 1) + 1 + 1 := ⟨_, rfl⟩
      have hne : ¬ p = pq := by omega
      have hne2 : ¬ pq = p := by omega
      have zp : Z2[p]? = some (.cells (stc s1 m)) := by
        rw [hZ2, hp, List.getElem?_cons_succ, List.getElem?_cons_succ, List.getElem?_append_right (by omega), List.getElem?_append_right (by omega), show X.length + X2.length - X.length - X2.length = 0 by omega]; rfl
      have zq : Z2[pq]? = some (.cells (dvc s1.1 s1.2 .no)) := by
        rw [hZ2, hpq, List.getElem?_cons_succ, List.getElem?_cons_succ, List.getElem?_append_right (by omega), List.getElem?_append_right (by omega), show X.length + (X2.length + 1) - X.length - X2.length = 1 by omega]; rfl
      have T1 : Stt (h ++ Z2) s1 m := by have := hS.app [AObj.cells (stc s1 m), AObj.cells (dvc s1.1 s1.2 .no)]; rw [hZ2]; simpa using this
      rw [← hpq, ← hp]
      refine awp_le (show ASt.le _ ⟨Tryz.f3.ntmps, [(2, iv node), (4, .ref x.c 0), (7, .ref y.c 0), (8, .bool false), (9, .bool true), (13, .ptr (h.length + p) 0), (14, .ptr (h.length + pq) 0)], h ++ Z2⟩ from by rw [hZ2]; exact st_keep' (by simp [stc, dvc, Snap.c]) (by simp [stc, dvc, Snap.c])) ?_
      clear hZ2 hS ht hpq hp hrr
      have gb : ∀ (Y : AHeap) (k : Nat), (h ++ Y)[h.length + k]? = Y[k]? := fun Y k => by rw [List.getElem?_append_right (by omega), show h.length + k - h.length = k by omega]
      refine awp_hard (id := h.length + p) ((gb _ _).trans zp) ?_
      have U1 := T1.upd (o' := .dead) ((gb _ _).trans zp) (fun _ _ e => by cases e)
      have zq2 : (List.set Z2 p .dead)[pq]? = some (.cells (dvc s1.1 s1.2 .no)) := by rw [List.getElem?_set_ne hne]; exact zq
      rw [set_behind] at U1 ⊢
      simp only [Slots.melt, AV.melt, Nat.add_left_cancel_iff, hne, hne2, reduceIte]
      refine awp_hard (id := h.length + pq) ((gb _ _).trans zq2) ?_
      have W1 := U1.upd (o' := .dead) ((gb _ _).trans zq2) (fun _ _ e => by cases e)
      rw [set_behind] at W1 ⊢
      simp only [Slots.melt, AV.melt, Nat.add_left_cancel_iff, hne, hne2, reduceIte]
      generalize (List.set Z2 p AObj.dead).set pq .dead = Z3 at *
      clear U1 T1 zp zq zq2
      unfold stc dvc
      simp only [Snap.c]
      repeat (first | ((first | refine goes_done ?_ | refine awp_exit ?_ | refine awp_skip ?_ | refine awp_label ?_ | refine awp_ret ?_); (try simp only [vq, if_true, reduceIte, Nat.reduceEqDiff, reduceCtorEq])) | refine awp_seq ?_ | refine awp_region' (run_start (goes_eq (by simp -implicitDefEqProofs (disch := (first | omega | (simp; done) | fail)) [if_pos, if_neg, wrap_i64, tmod_pos, tdiv_pos, Int.toNat_add]; rfl) ?_)) | refine awp_block ?_ | refine awp_scope ?_ | refine awp_cond_t rfl ?_ | refine awp_cond_f rfl ?_)
      refine goes_callS (callable_of Tryz.func8) (by simp -implicitDefEqProofs (disch := (first | omega | (simp; done) | fail)) [if_pos, if_neg, wrap_i64, tmod_pos, tdiv_pos, Int.toNat_add, stv, sv, dv, dvc] <;> first | rfl | omega) _ (lsame_ok s1 m _ W1 hM f1 (by omega)) ?_
      rintro _ _ ⟨rfl, rfl⟩
      refine goes_eq (by simp -implicitDefEqProofs (disch := (first | omega | (simp; done) | fail)) [if_pos, if_neg, wrap_i64, tmod_pos, tdiv_pos, Int.toNat_add]; rfl) ?_
      repeat (first | ((first | refine goes_done ?_ | refine awp_exit ?_ | refine awp_skip ?_ | refine awp_label ?_ | refine awp_ret ?_); (try simp only [vq, if_true, reduceIte, Nat.reduceEqDiff, reduceCtorEq])) | refine awp_seq ?_ | refine awp_region' (run_start (goes_eq (by simp -implicitDefEqProofs (disch := (first | omega | (simp; done) | fail)) [if_pos, if_neg, wrap_i64, tmod_pos, tdiv_pos, Int.toNat_add]; rfl) ?_)) | refine awp_block ?_ | refine awp_scope ?_ | refine awp_cond_t rfl ?_ | refine awp_cond_f rfl ?_)
      refine awp_draw (.q 0 (.q 1 (.q 2 (.q 3 (.q 4 (.q 5 (.q 6 (.q 8 (.q 9 (.a 7 (.a 10 (.q 11 (.q 12 (.q 13 (.q 14 (.q 15 (.q 17 (.q 18 (.a 16 (.a 19 (.q 20 (.q 21 (.q 22 (.done)))))))))))))))))))))))) (by kernel_rfl) (by kernel_rfl) (tree_start (goesT_eq (by simp -implicitDefEqProofs (disch := (first | omega | (simp; done) | fail)) [if_pos, if_neg, wrap_i64, tmod_pos, tdiv_pos, Int.toNat_add]; rfl) ?_))
      refine goesT_callS (callable_of Tryz.func9) (by simp -implicitDefEqProofs (disch := (first | omega | (simp; done) | fail)) [if_pos, if_neg, wrap_i64, tmod_pos, tdiv_pos, Int.toNat_add, stv, sv] <;> first | rfl | omega) _ (next_ok s1 m node (by omega) _) ?_
      rintro _ _ ⟨rfl, rfl⟩
      refine goesT_eq (by simp -implicitDefEqProofs (disch := (first | omega | (simp; done) | fail)) [if_pos, if_neg, wrap_i64, tmod_pos, tdiv_pos, Int.toNat_add]; rfl) ?_
      refine goesT_callS (callable_of Tryz.func10) (by simp -implicitDefEqProofs (disch := (first | omega | (simp; done) | fail)) [if_pos, if_neg, wrap_i64, tmod_pos, tdiv_pos, Int.toNat_add, dv, dvc] <;> first | rfl | omega) _ (rnext_ok s1 node (by omega) _) ?_
      rintro _ _ ⟨rfl, rfl⟩
      refine goesT_eq (by simp -implicitDefEqProofs (disch := (first | omega | (simp; done) | fail)) [if_pos, if_neg, wrap_i64, tmod_pos, tdiv_pos, Int.toNat_add]; rfl) ?_
      refine goesT_callS (callable_of Tryz.func11) (by simp -implicitDefEqProofs (disch := (first | omega | (simp; done) | fail)) [if_pos, if_neg, wrap_i64, tmod_pos, tdiv_pos, Int.toNat_add, Snap.c, entv_s, sesv_s, iv_s] <;> first | rfl | omega) _ (same_ok x y lx ly _) ?_
      rintro _ _ ⟨rfl, rfl⟩
      refine goesT_eq (by simp -implicitDefEqProofs (disch := (first | omega | (simp; done) | fail)) [if_pos, if_neg, wrap_i64, tmod_pos, tdiv_pos, Int.toNat_add]; rfl) ?_
      refine goesT_callS (callable_of Tryz.func12) (by simp -implicitDefEqProofs (disch := (first | omega | (simp; done) | fail)) [if_pos, if_neg, wrap_i64, tmod_pos, tdiv_pos, Int.toNat_add, Snap.c, entv_s, sesv_s, iv_s] <;> first | rfl | omega) _ (rsnap_ok x y lx ly _) ?_
      rintro _ _ ⟨rfl, rfl⟩
      refine goesT_eq (by simp -implicitDefEqProofs (disch := (first | omega | (simp; done) | fail)) [if_pos, if_neg, wrap_i64, tmod_pos, tdiv_pos, Int.toNat_add]; rfl) ?_
      refine goesT_done ?_
      (try simp only [vq, if_true, reduceIte, Nat.reduceEqDiff, reduceCtorEq])
      repeat (first | ((first | refine goes_done ?_ | refine awp_exit ?_ | refine awp_skip ?_ | refine awp_label ?_ | refine awp_ret ?_); (try simp only [vq, if_true, reduceIte, Nat.reduceEqDiff, reduceCtorEq])) | refine awp_seq ?_ | refine awp_region' (run_start (goes_eq (by simp -implicitDefEqProofs (disch := (first | omega | (simp; done) | fail)) [if_pos, if_neg, wrap_i64, tmod_pos, tdiv_pos, Int.toNat_add]; rfl) ?_)) | refine awp_block ?_ | refine awp_scope ?_ | refine awp_cond_t rfl ?_ | refine awp_cond_f rfl ?_)
      first | refine body_pure (.inr rfl) (by simp -implicitDefEqProofs; rfl) (by simp -implicitDefEqProofs; rfl) (by simp) ?_ | refine body_pure (.inl rfl) (by simp -implicitDefEqProofs; rfl) (by simp -implicitDefEqProofs; rfl) (by simp) ?_
      simp
    have hlt : i < la.length := by omega
    have q : (i : Int) < (la.length : Int) := by omega
    have hx2 : (la.map AV.str)[i]? = some (AV.str la[i]) := by simp [hlt]
    have htk : la.take (i + 1) = la.take i ++ [la[i]] := List.take_succ_eq_append_getElem hlt
    have hi1 : i + 1 ≤ la.length := hlt
    have h21 : la.length - (i + 1) < la.length - i := by omega
    have hln : (la.take i).length ≤ 30 := by simp; omega
    generalize la[i] = b at *
    generalize la.take i = acc at *
    clear hlt
    by_cases q2 : (3000 : Int) < (b.length : Int)
    · repeat (first | ((first | refine goes_done ?_ | refine awp_exit ?_ | refine awp_skip ?_ | refine awp_label ?_ | refine awp_ret ?_); (try simp only [vq, if_true, reduceIte, Nat.reduceEqDiff, reduceCtorEq])) | refine awp_seq ?_ | refine awp_region' (run_start (goes_eq (by simp -implicitDefEqProofs (disch := (first | omega | (simp; done) | fail)) [if_pos, if_neg, wrap_i64, tmod_pos, tdiv_pos, Int.toNat_add, q, hx2, q2, str_uni, AV.cells]; rfl) ?_)) | refine awp_block ?_ | refine awp_scope ?_ | refine awp_cond_t rfl ?_ | refine awp_cond_f rfl ?_)
      first | refine body_pure (.inr rfl) (by simp -implicitDefEqProofs; rfl) (by simp -implicitDefEqProofs; rfl) (by simp) ?_ | refine body_pure (.inl rfl) (by simp -implicitDefEqProofs; rfl) (by simp -implicitDefEqProofs; rfl) (by simp) ?_
      simp
    have hb30 : b.length ≤ 3000 := by omega
    have hsm2 : ∀ c ∈ la.take (i + 1), c.length ≤ 3000 := by
      rw [htk]; intro c hc
      rcases List.mem_append.1 hc with hc | hc
      · exact hsm c hc
      · simp at hc; subst hc; exact hb30
    rcases ht with rfl | ⟨j, rfl, hj⟩
    · repeat (first | ((first | refine goes_done ?_ | refine awp_exit ?_ | refine awp_skip ?_ | refine awp_label ?_ | refine awp_ret ?_); (try simp only [vq, if_true, reduceIte, Nat.reduceEqDiff, reduceCtorEq])) | refine awp_seq ?_ | refine awp_region' (run_start (goes_eq (by simp -implicitDefEqProofs (disch := (first | omega | (simp; done) | fail)) [if_pos, if_neg, wrap_i64, tmod_pos, tdiv_pos, Int.toNat_add, q, hx2, q2, str_uni, AV.cells]; rfl) ?_)) | refine awp_block ?_ | refine awp_scope ?_ | refine awp_cond_t rfl ?_ | refine awp_cond_f rfl ?_)
      exact ⟨la.length - (i + 1), h21, i + 1, X ++ [.tail 33 1], .own (h.length + (X.length + 2)), rfl, hi1, hsm2, .new (by simp), by rw [htk]; exact st_keep' (by simp [byl]) (by simp [byl])⟩
    · repeat (first | ((first | refine goes_done ?_ | refine awp_exit ?_ | refine awp_skip ?_ | refine awp_label ?_ | refine awp_ret ?_); (try simp only [vq, if_true, reduceIte, Nat.reduceEqDiff, reduceCtorEq])) | refine awp_seq ?_ | refine awp_region' (run_start (goes_eq (by simp -implicitDefEqProofs (disch := (first | omega | (simp; done) | fail)) [if_pos, if_neg, wrap_i64, tmod_pos, tdiv_pos, Int.toNat_add, q, hx2, q2, str_uni, AV.cells, hj]; rfl) ?_)) | refine awp_block ?_ | refine awp_scope ?_ | refine awp_cond_t rfl ?_ | refine awp_cond_f rfl ?_)
      exact ⟨la.length - (i + 1), h21, i + 1, X.set j .dead ++ [.tail 33 1], .own (h.length + (X.length + 2)), rfl, hi1, hsm2, .new (by simp), by rw [htk]; exact st_keep' (by simp [byl]) (by simp [byl])⟩
  · exact ⟨0, [], .full, rfl, by omega, by simp, .full, st_keep' (by simp [Snap.c]) (by simp [Snap.c])⟩
end Go.Proofs.YtdncoobpdllpkaaGreat.Q

/- The law RecordReplays: its walk. -/
set_option linter.unusedVariables false
set_option linter.unusedSimpArgs false
set_option maxRecDepth 20000
namespace Go.Proofs.YtdncoobpdllpkaaGreat.QR
open Go Go.Proofs.YtdncoobpdllpkaaGreat.V Go.Proofs.YtdncoobpdllpkaaGreat.N Go.Proofs.YtdncoobpdllpkaaGreat.D Go.Proofs.YtdncoobpdllpkaaGreat.Q Go.RowKit Go.WideShapes
def SnapAt (w : World) (v : Value) : Prop := ∃ x : Snap, VRel (g0 w) (.agg x.c) v
def StrsAt (w : World) (v : Value) : Prop := ∃ l : List (List UInt8), VRel (g0 w) (.list (l.map .str) .no) v
theorem open_api_Snap {H : Type} {enc : TypeId × Value → H} {w : World} {v : Value} {d : DataW H} {p : List MemPlace} {r : Reach} {b0 : Nat} (hv : Value.okWide Tryz.prog w r b0 28 v) (h : DataW.Trod enc Tryz.prog w 0 (fun _ => true) true 28 v d p) (hnf : w.noneFrozen p) : ∃ x : Came, v = x.v ∧ SnapAt w x.v :=
  ⟨⟨v⟩, rfl, by
    obtain ⟨fuel, h⟩ := h
    obtain ⟨cs, rfl, _⟩ := okWide_struct Tryz.underlying28 hv
    obtain ⟨a, _, _, hr⟩ := bo_snap H enc w fuel _ _ h hnf
    exact ⟨a, .agg _ _ (by simpa [Value.cells] using hr.1) fun i h1 h2 => by simpa [Value.cells] using hr.2 i h1 (by simpa [Value.cells] using h2)⟩⟩
theorem open_Sl_string {H : Type} {enc : TypeId × Value → H} {w : World} {v : Value} {d : DataW H} {p : List MemPlace} {r : Reach} {b0 : Nat} (hv : Value.okWide Tryz.prog w r b0 29 v) (h : DataW.Trod enc Tryz.prog w 0 (fun _ => true) true 29 v d p) (hnf : w.noneFrozen p) : ∃ x : Came, v = x.v ∧ StrsAt w x.v :=
  ⟨⟨v⟩, rfl, by
    obtain ⟨l, _, hr⟩ := vopen_sl Tryz.underlying29 (vopens_sl (sz := 1) Tryz.underlying29 (by kernel_rfl) (by decide) (vopens_str Tryz.underlying9) AV.str (fun _ => rfl) (fun _ => rfl)) hv h hnf
    exact ⟨l, hr⟩⟩
theorem walk_RecordReplays (x0 : Came) {w : World} (f0 : SnapAt w x0.v) (x1 : Came) (f1 : StrsAt w x1.v) (a2 : Int) (w2 : (Lit.int .i64 a2).wf = true) (x3 : Came) (f3 : SnapAt w x3.v) :
    Calls Tryz.prog 3 #[x0.v, x1.v, .int .i64 a2, x3.v] w fun e w' => e = .returned (.bool true) ∧ Below w.heap.size w w' := by
  obtain ⟨x, h0⟩ := f0
  obtain ⟨a, h1⟩ := f1
  obtain ⟨y, h3⟩ := f3
  exact Law.calls (recordReplays x y a .no a2 []) w (vals_of (cells_cons h0 (cells_cons h1 (cells_cons (.int _ _) (cells_cons h3 (cells_nil _))))))
end Go.Proofs.YtdncoobpdllpkaaGreat.QR
