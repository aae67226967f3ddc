import Derived.Test.YtdoaglcnncapdaaDD
import Derived.Test.YtdoaglcnncapdaaD36
/- Messages as bytes: the law CodeBack. -/
set_option linter.unusedVariables false
set_option linter.unusedSimpArgs false
set_option maxRecDepth 20000
namespace Go.Proofs.Ytdoaglcnncapdaa.D
open Go Go.Proofs.Ytdoaglcnncapdaa.V Go.Proofs.Ytdoaglcnncapdaa.N Go.RowKit
theorem ofFr_more {m : Msg} (hl : (flat m.t).length ≤ 16777215) : ofFr (F.fr (flat m.t) ++ [0]) = (.zero, 11) := by
  have e := F.takeB_fr (flat m.t) [0] hl
  unfold ofFr
  rw [e]
  simp [F.fr_length]
theorem back (m : Msg) (s : List UInt8) (hm : wts m.t ≤ 1050000) (h : AHeap) : ACalls Try.prog 5 [.agg m.c, .str s] h fun x h' => x = .bool true ∧ h' = h := by
  obtain ⟨hmo, hml⟩ := msg_fine hm
  have hms := msg_strip m
  have q1 : m.c.take 27 = m.c := rfl
  refine acalls_of_awp Try.func5 rfl (by simp only [List.length_cons, List.length_nil]; decide) ?_
  simp only [params_cons, params_nil]
  refine awp_seq ?_
  refine awp_region' (run_start (goes_eq (by simp -implicitDefEqProofs (disch := (first | omega | (simp; done) | fail)) [if_pos, if_neg, wrap_i64, tmod_pos, tdiv_pos, Int.toNat_add]; rfl) ?_))
  refine goes_done ?_
  (try simp only [vq, if_true, reduceIte, Nat.reduceEqDiff, reduceCtorEq])
  refine awp_hard (id := h.length) (by simp -implicitDefEqProofs; rfl) ?_
  simp -implicitDefEqProofs only [Slots.melt, AV.melt, Nat.add_left_cancel_iff, Nat.add_eq_left, Nat.left_eq_add, Nat.reduceEqDiff, reduceIte, Nat.succ_ne_self, Nat.one_ne_zero, Nat.zero_ne_one, List.set_append_right, List.set_append_left, Nat.sub_self, Nat.le_refl, Nat.add_sub_cancel_left, Nat.le_add_right, List.set_cons_zero, List.set_cons_succ]
  repeat (first | ((first | refine goes_done ?_ | refine awp_exit ?_ | refine awp_skip ?_ | refine awp_label ?_ | refine awp_ret ?_); (try simp only [vq, if_true, reduceIte, Nat.reduceEqDiff, reduceCtorEq])) | refine awp_seq ?_ | refine awp_region' (run_start (goes_eq (by simp -implicitDefEqProofs (disch := (first | omega | (simp; done) | fail)) [if_pos, if_neg, wrap_i64, tmod_pos, tdiv_pos, Int.toNat_add]; rfl) ?_)) | refine awp_block ?_ | refine awp_scope ?_ | refine awp_cond_t rfl ?_ | refine awp_cond_f rfl ?_)
  refine goes_callS (callable_of Try.func10) (by simp -implicitDefEqProofs (disch := (first | omega | (simp; done) | fail)) [if_pos, if_neg, wrap_i64, tmod_pos, tdiv_pos, Int.toNat_add] <;> first | rfl | omega) _ (works_ok _) ?_
  rintro _ h1 ⟨rfl, rfl⟩
  refine goes_eq (by simp -implicitDefEqProofs (disch := (first | omega | (simp; done) | fail)) [if_pos, if_neg, wrap_i64, tmod_pos, tdiv_pos, Int.toNat_add]; rfl) ?_
  repeat (first | ((first | refine goes_done ?_ | refine awp_exit ?_ | refine awp_skip ?_ | refine awp_label ?_ | refine awp_ret ?_); (try simp only [vq, if_true, reduceIte, Nat.reduceEqDiff, reduceCtorEq])) | refine awp_seq ?_ | refine awp_region' (run_start (goes_eq (by simp -implicitDefEqProofs (disch := (first | omega | (simp; done) | fail)) [if_pos, if_neg, wrap_i64, tmod_pos, tdiv_pos, Int.toNat_add, Msg.c_len, q1]; rfl) ?_)) | refine awp_block ?_ | refine awp_scope ?_ | refine awp_cond_t rfl ?_ | refine awp_cond_f rfl ?_)
  refine goes_callS (callable_of Try.func11) (by simp -implicitDefEqProofs (disch := (first | omega | (simp; done) | fail)) [if_pos, if_neg, wrap_i64, tmod_pos, tdiv_pos, Int.toNat_add, hms] <;> first | rfl | omega) _ (few_ok m _) ?_
  rintro _ _ ⟨⟨b1, rfl⟩, rfl⟩
  cases b1 with
  | false =>
    refine goes_eq (by simp -implicitDefEqProofs (disch := (first | omega | (simp; done) | fail)) [if_pos, if_neg, wrap_i64, tmod_pos, tdiv_pos, Int.toNat_add]; rfl) ?_
    repeat (first | ((first | refine goes_done ?_ | refine awp_exit ?_ | refine awp_skip ?_ | refine awp_label ?_ | refine awp_ret ?_); (try simp only [vq, if_true, reduceIte, Nat.reduceEqDiff, reduceCtorEq])) | refine awp_seq ?_ | refine awp_region' (run_start (goes_eq (by simp -implicitDefEqProofs (disch := (first | omega | (simp; done) | fail)) [if_pos, if_neg, wrap_i64, tmod_pos, tdiv_pos, Int.toNat_add]; rfl) ?_)) | refine awp_block ?_ | refine awp_scope ?_ | refine awp_cond_t rfl ?_ | refine awp_cond_f rfl ?_)
    first | refine body_pure (.inr rfl) (by simp -implicitDefEqProofs; rfl) (by simp -implicitDefEqProofs; rfl) (by simp) ?_ | refine body_pure (.inl rfl) (by simp -implicitDefEqProofs; rfl) (by simp -implicitDefEqProofs; rfl) (by simp) ?_
    simp
  | true =>
  by_cases h1 : (3000 : Int) < (s.length : Int)
  · refine goes_eq (by simp -implicitDefEqProofs (disch := (first | omega | (simp; done) | fail)) [if_pos, if_neg, wrap_i64, tmod_pos, tdiv_pos, Int.toNat_add, h1]; rfl) ?_
    repeat (first | ((first | refine goes_done ?_ | refine awp_exit ?_ | refine awp_skip ?_ | refine awp_label ?_ | refine awp_ret ?_); (try simp only [vq, if_true, reduceIte, Nat.reduceEqDiff, reduceCtorEq])) | refine awp_seq ?_ | refine awp_region' (run_start (goes_eq (by simp -implicitDefEqProofs (disch := (first | omega | (simp; done) | fail)) [if_pos, if_neg, wrap_i64, tmod_pos, tdiv_pos, Int.toNat_add]; rfl) ?_)) | refine awp_block ?_ | refine awp_scope ?_ | refine awp_cond_t rfl ?_ | refine awp_cond_f rfl ?_)
    first | refine body_pure (.inr rfl) (by simp -implicitDefEqProofs; rfl) (by simp -implicitDefEqProofs; rfl) (by simp) ?_ | refine body_pure (.inl rfl) (by simp -implicitDefEqProofs; rfl) (by simp -implicitDefEqProofs; rfl) (by simp) ?_
    simp
  refine goes_eq (by simp -implicitDefEqProofs (disch := (first | omega | (simp; done) | fail)) [if_pos, if_neg, wrap_i64, tmod_pos, tdiv_pos, Int.toNat_add, h1]; rfl) ?_
  repeat (first | ((first | refine goes_done ?_ | refine awp_exit ?_ | refine awp_skip ?_ | refine awp_label ?_ | refine awp_ret ?_); (try simp only [vq, if_true, reduceIte, Nat.reduceEqDiff, reduceCtorEq])) | refine awp_seq ?_ | refine awp_region' (run_start (goes_eq (by simp -implicitDefEqProofs (disch := (first | omega | (simp; done) | fail)) [if_pos, if_neg, wrap_i64, tmod_pos, tdiv_pos, Int.toNat_add, Msg.c_len, q1]; rfl) ?_)) | refine awp_block ?_ | refine awp_scope ?_ | refine awp_cond_t rfl ?_ | refine awp_cond_f rfl ?_)
  refine goes_callS (callable_of Try.func12) (by simp -implicitDefEqProofs (disch := (first | omega | (simp; done) | fail)) [if_pos, if_neg, wrap_i64, tmod_pos, tdiv_pos, Int.toNat_add, hms] <;> first | rfl | omega) _ (msg_ok m hmo.few _) ?_
  rintro _ _ ⟨rfl, rfl⟩
  unfold outV
  refine goes_eq (by simp -implicitDefEqProofs (disch := (first | omega | (simp; done) | fail)) [if_pos, if_neg, wrap_i64, tmod_pos]; rfl) ?_
  refine goes_done ?_
  (try simp only [vq, if_true, reduceIte, Nat.reduceEqDiff, reduceCtorEq])
  refine awp_cut (fun st' => ∃ y, st'.le ⟨Try.f5.ntmps, [(5, .bool true), (1, .str s)], h ++ y⟩) ?_ ?_
  rotate_left
  · rintro st' ⟨y, hle⟩
    refine awp_le hle ?_
    repeat (first | ((first | refine goes_done ?_ | refine awp_exit ?_ | refine awp_skip ?_ | refine awp_label ?_ | refine awp_ret ?_); (try simp only [vq, if_true, reduceIte, Nat.reduceEqDiff, reduceCtorEq])) | refine awp_seq ?_ | refine awp_region' (run_start (goes_eq (by simp -implicitDefEqProofs (disch := (first | omega | (simp; done) | fail)) [if_pos, if_neg, wrap_i64, tmod_pos, tdiv_pos, Int.toNat_add]; rfl) ?_)) | refine awp_block ?_ | refine awp_scope ?_ | refine awp_cond_t rfl ?_ | refine awp_cond_f rfl ?_)
    refine goes_callS (callable_of Try.func17) (by simp -implicitDefEqProofs (disch := (first | omega | (simp; done) | fail)) [if_pos, if_neg, wrap_i64, tmod_pos, tdiv_pos, Int.toNat_add] <;> first | rfl | omega) _ (ofMsg_ok s .no (by omega) _) ?_
    rintro _ _ ⟨rfl, rfl⟩
    have hw := whole_of both_msg .zero s
    have hnz := good_msg.nz s
    generalize whole rdMsg .zero s = w at *
    have hwl := Msg.c_len w.1
    have hwo : ones w.1.c = true := by simp [Msg.c]
    have hws := msg_strip w.1
    have q3 : w.1.c.take 27 = w.1.c := rfl
    by_cases hz : w.2 = 0
    · obtain ⟨hb, hs⟩ := hw hz hnz
      have hwt := wts_flat _ hb
      obtain ⟨hwo2, hwl2⟩ := msg_fine (m := w.1) (by rw [← hs] at hwt; omega)
      generalize hc : w.1.c = wc at *
      rw [hz]
      refine goes_eq (by simp -implicitDefEqProofs (disch := (first | omega | (simp; done) | fail)) [if_pos, if_neg, wrap_i64, tmod_pos, tdiv_pos, Int.toNat_add, hwl, hwo]; rfl) ?_
      repeat (first | ((first | refine goes_done ?_ | refine awp_exit ?_ | refine awp_skip ?_ | refine awp_label ?_ | refine awp_ret ?_); (try simp only [vq, if_true, reduceIte, Nat.reduceEqDiff, reduceCtorEq])) | refine awp_seq ?_ | refine awp_region' (run_start (goes_eq (by simp -implicitDefEqProofs (disch := (first | omega | (simp; done) | fail)) [if_pos, if_neg, wrap_i64, tmod_pos, tdiv_pos, Int.toNat_add, hwl, hwo, q3]; rfl) ?_)) | refine awp_block ?_ | refine awp_scope ?_ | refine awp_cond_t rfl ?_ | refine awp_cond_f rfl ?_)
      refine goes_callS (callable_of Try.func12) (by simp -implicitDefEqProofs (disch := (first | omega | (simp; done) | fail)) [if_pos, if_neg, wrap_i64, tmod_pos, tdiv_pos, Int.toNat_add, hws, hc] <;> first | rfl | omega) _ (msg_ok w.1 hwo2.few _) ?_
      rintro _ _ ⟨rfl, rfl⟩
      rw [hb, ← hs]
      refine goes_eq (by simp -implicitDefEqProofs (disch := (first | omega | (simp; done) | fail)) [if_pos, if_neg, wrap_i64, tmod_pos, tdiv_pos, Int.toNat_add, outV, outB, outE]; rfl) ?_
      repeat (first | ((first | refine goes_done ?_ | refine awp_exit ?_ | refine awp_skip ?_ | refine awp_label ?_ | refine awp_ret ?_); (try simp only [vq, if_true, reduceIte, Nat.reduceEqDiff, reduceCtorEq])) | refine awp_seq ?_ | refine awp_region' (run_start (goes_eq (by simp -implicitDefEqProofs (disch := (first | omega | (simp; done) | fail)) [if_pos, if_neg, wrap_i64, tmod_pos, tdiv_pos, Int.toNat_add]; rfl) ?_)) | refine awp_block ?_ | refine awp_scope ?_ | refine awp_cond_t rfl ?_ | refine awp_cond_f rfl ?_)
      first | refine body_pure (.inr rfl) (by simp -implicitDefEqProofs; rfl) (by simp -implicitDefEqProofs; rfl) (by simp) ?_ | refine body_pure (.inl rfl) (by simp -implicitDefEqProofs; rfl) (by simp -implicitDefEqProofs; rfl) (by simp) ?_
      simp
    · have hz2 : ((w.2 : Int) != 0) = true := by simp; omega
      generalize hc : w.1.c = wc at *
      refine goes_eq (by simp -implicitDefEqProofs (disch := (first | omega | (simp; done) | fail)) [if_pos, if_neg, wrap_i64, tmod_pos, tdiv_pos, Int.toNat_add, hwl, hwo]; rfl) ?_
      repeat (first | ((first | refine goes_done ?_ | refine awp_exit ?_ | refine awp_skip ?_ | refine awp_label ?_ | refine awp_ret ?_); (try simp only [vq, if_true, reduceIte, Nat.reduceEqDiff, reduceCtorEq])) | refine awp_seq ?_ | refine awp_region' (run_start (goes_eq (by simp -implicitDefEqProofs (disch := (first | omega | (simp; done) | fail)) [if_pos, if_neg, wrap_i64, tmod_pos, tdiv_pos, Int.toNat_add, hz2]; rfl) ?_)) | refine awp_block ?_ | refine awp_scope ?_ | refine awp_cond_t rfl ?_ | refine awp_cond_f rfl ?_)
      first | refine body_pure (.inr rfl) (by simp -implicitDefEqProofs; rfl) (by simp -implicitDefEqProofs; rfl) (by simp) ?_ | refine body_pure (.inl rfl) (by simp -implicitDefEqProofs; rfl) (by simp -implicitDefEqProofs; rfl) (by simp) ?_
      simp
  cases hb : bads m.t with
  | true =>
    repeat (first | ((first | refine goes_done ?_ | refine awp_exit ?_ | refine awp_skip ?_ | refine awp_label ?_ | refine awp_ret ?_); (try simp only [vq, if_true, reduceIte, Nat.reduceEqDiff, reduceCtorEq])) | refine awp_seq ?_ | refine awp_region' (run_start (goes_eq (by simp -implicitDefEqProofs (disch := (first | omega | (simp; done) | fail)) [if_pos, if_neg, wrap_i64, tmod_pos, tdiv_pos, Int.toNat_add, outB, outE]; rfl) ?_)) | refine awp_block ?_ | refine awp_scope ?_ | refine awp_cond_t rfl ?_ | refine awp_cond_f rfl ?_)
    exact ⟨[.dead], st_keep' (by simp []) (by simp [])⟩
  | false =>
  have hbk := whole_back both_msg .zero m hb
  have hmore := ofFr_more hml
  have hfb := ofFr_back hb hml
  have hfl := F.fr_length (flat m.t)
  have hfv : frameV m = .tuple [.list ((F.fr (flat m.t)).map b8) .no, .int .i64 0] := by unfold frameV; rw [hb]; rfl
  have hml2 := Msg.c_len m
  have hmo2 : ones m.c = true := by simp [Msg.c]
  have hrt := fun h => rtext_ok m hmo h
  simp only [hb, Bool.false_eq_true, if_false] at hrt
  have hmf := fun h => frame_ok m hmo.few hml h
  rw [hfv] at hmf
  have z1 : Msg.zero.c.length = 27 := rfl
  have z2 : ones Msg.zero.c = true := by simp [Msg.c, Msg.zero, Iid.zero, Bal.zero, Cmd.zero, Inst.zero, Snap.zero]
  generalize F.fr (flat m.t) = X at *
  generalize flat m.t = l at *
  repeat (first | ((first | refine goes_done ?_ | refine awp_exit ?_ | refine awp_skip ?_ | refine awp_label ?_ | refine awp_ret ?_); (try simp only [vq, if_true, reduceIte, Nat.reduceEqDiff, reduceCtorEq])) | refine awp_seq ?_ | refine awp_region' (run_start (goes_eq (by simp -implicitDefEqProofs (disch := (first | omega | (simp; done) | fail)) [if_pos, if_neg, wrap_i64, tmod_pos, tdiv_pos, Int.toNat_add, outB, outE]; rfl) ?_)) | refine awp_block ?_ | refine awp_scope ?_ | refine awp_cond_t rfl ?_ | refine awp_cond_f rfl ?_)
  refine goes_callS (callable_of Try.func17) (by simp -implicitDefEqProofs (disch := (first | omega | (simp; done) | fail)) [if_pos, if_neg, wrap_i64, tmod_pos, tdiv_pos, Int.toNat_add] <;> first | rfl | omega) _ (ofMsg_ok l .no (by omega) _) ?_
  rintro _ _ ⟨rfl, rfl⟩
  rw [hbk]
  refine goes_eq (by simp -implicitDefEqProofs (disch := (first | omega | (simp; done) | fail)) [if_pos, if_neg, wrap_i64, tmod_pos, tdiv_pos, Int.toNat_add, hml2, hmo2]; rfl) ?_
  refine goes_done ?_
  simp only [vq, if_true, reduceIte, Nat.reduceEqDiff, reduceCtorEq]
  refine awp_hard (id := h.length + 1) (by simp -implicitDefEqProofs; rfl) ?_
  simp -implicitDefEqProofs only [Slots.melt, AV.melt, Nat.add_left_cancel_iff, Nat.add_eq_left, Nat.left_eq_add, Nat.reduceEqDiff, reduceIte, Nat.succ_ne_self, Nat.one_ne_zero, Nat.zero_ne_one, List.set_append_right, List.set_append_left, Nat.sub_self, Nat.le_refl, Nat.add_sub_cancel_left, Nat.le_add_right, List.set_cons_zero, List.set_cons_succ]
  repeat (first | ((first | refine goes_done ?_ | refine awp_exit ?_ | refine awp_skip ?_ | refine awp_label ?_ | refine awp_ret ?_); (try simp only [vq, if_true, reduceIte, Nat.reduceEqDiff, reduceCtorEq])) | refine awp_seq ?_ | refine awp_region' (run_start (goes_eq (by simp -implicitDefEqProofs (disch := (first | omega | (simp; done) | fail)) [if_pos, if_neg, wrap_i64, tmod_pos, tdiv_pos, Int.toNat_add, hml2, q1]; rfl) ?_)) | refine awp_block ?_ | refine awp_scope ?_ | refine awp_cond_t rfl ?_ | refine awp_cond_f rfl ?_)
  refine goes_callS (callable_of Try.func22) (by simp -implicitDefEqProofs (disch := (first | omega | (simp; done) | fail)) [if_pos, if_neg, wrap_i64, tmod_pos, tdiv_pos, Int.toNat_add, hms] <;> first | rfl | omega) _ (hmf _) ?_
  rintro _ _ ⟨rfl, rfl⟩
  refine goes_eq (by simp -implicitDefEqProofs (disch := (first | omega | (simp; done) | fail)) [if_pos, if_neg, wrap_i64, tmod_pos, tdiv_pos, Int.toNat_add]; rfl) ?_
  repeat (first | ((first | refine goes_done ?_ | refine awp_exit ?_ | refine awp_skip ?_ | refine awp_label ?_ | refine awp_ret ?_); (try simp only [vq, if_true, reduceIte, Nat.reduceEqDiff, reduceCtorEq])) | refine awp_seq ?_ | refine awp_region' (run_start (goes_eq (by simp -implicitDefEqProofs (disch := (first | omega | (simp; done) | fail)) [if_pos, if_neg, wrap_i64, tmod_pos, tdiv_pos, Int.toNat_add]; rfl) ?_)) | refine awp_block ?_ | refine awp_scope ?_ | refine awp_cond_t rfl ?_ | refine awp_cond_f rfl ?_)
  refine goes_callS (callable_of Try.func23) (by simp -implicitDefEqProofs (disch := (first | omega | (simp; done) | fail)) [if_pos, if_neg, wrap_i64, tmod_pos, tdiv_pos, Int.toNat_add] <;> first | rfl | omega) _ (ofFrame_ok X .no (by omega) _) ?_
  rintro _ _ ⟨rfl, rfl⟩
  rw [hfb]
  refine goes_eq (by simp -implicitDefEqProofs (disch := (first | omega | (simp; done) | fail)) [if_pos, if_neg, wrap_i64, tmod_pos, tdiv_pos, Int.toNat_add, hml2, hmo2]; rfl) ?_
  refine goes_done ?_
  simp only [vq, if_true, reduceIte, Nat.reduceEqDiff, reduceCtorEq]
  refine awp_hard (id := h.length + 2) (by simp -implicitDefEqProofs; rfl) ?_
  simp -implicitDefEqProofs only [Slots.melt, AV.melt, Nat.add_left_cancel_iff, Nat.add_eq_left, Nat.left_eq_add, Nat.reduceEqDiff, reduceIte, Nat.succ_ne_self, Nat.one_ne_zero, Nat.zero_ne_one, List.set_append_right, List.set_append_left, Nat.sub_self, Nat.le_refl, Nat.add_sub_cancel_left, Nat.le_add_right, List.set_cons_zero, List.set_cons_succ]
  refine awp_seq ?_
  refine awp_seq ?_
  refine awp_draw (.q 0 (.q 1 (.q 2 (.q 3 (.q 5 (.a 4 (.a 6 (.q 7 (.q 8 (.q 9 (.q 10 (.q 11 (.q 12 (.q 13 (.q 14 (.q 15 (.q 16 (.q 17 (.q 18 (.q 20 (.a 19 (.a 21 (.q 22 (.q 23 (.done))))))))))))))))))))))))) (by kernel_rfl) (by kernel_rfl) (tree_start (goesT_eq (by simp -implicitDefEqProofs (disch := (first | omega | (simp; done) | fail)) [if_pos, if_neg, wrap_i64, tmod_pos, tdiv_pos, Int.toNat_add, hml2, q1]; rfl) ?_))
  refine goesT_callS (callable_of Try.func21) (by simp -implicitDefEqProofs (disch := (first | omega | (simp; done) | fail)) [if_pos, if_neg, wrap_i64, tmod_pos, tdiv_pos, Int.toNat_add, hms] <;> first | rfl | omega) _ (hrt _) ?_
  rintro _ _ ⟨rfl, rfl⟩
  refine goesT_eq (by simp -implicitDefEqProofs (disch := (first | omega | (simp; done) | fail)) [if_pos, if_neg, wrap_i64, tmod_pos, tdiv_pos, Int.toNat_add, hml2, q1]; rfl) ?_
  refine goesT_callS (callable_of Try.func21) (by simp -implicitDefEqProofs (disch := (first | omega | (simp; done) | fail)) [if_pos, if_neg, wrap_i64, tmod_pos, tdiv_pos, Int.toNat_add, hms] <;> first | rfl | omega) _ (hrt _) ?_
  rintro _ _ ⟨rfl, rfl⟩
  refine goesT_eq (by simp -implicitDefEqProofs (disch := (first | omega | (simp; done) | fail)) [if_pos, if_neg, wrap_i64, tmod_pos, tdiv_pos, Int.toNat_add, hml2, q1]; rfl) ?_
  refine goesT_callS (callable_of Try.func21) (by simp -implicitDefEqProofs (disch := (first | omega | (simp; done) | fail)) [if_pos, if_neg, wrap_i64, tmod_pos, tdiv_pos, Int.toNat_add, hms] <;> first | rfl | omega) _ (hrt _) ?_
  rintro _ _ ⟨rfl, rfl⟩
  refine goesT_eq (by simp -implicitDefEqProofs (disch := (first | omega | (simp; done) | fail)) [if_pos, if_neg, wrap_i64, tmod_pos, tdiv_pos, Int.toNat_add, hml2, q1]; rfl) ?_
  refine goesT_callS (callable_of Try.func21) (by simp -implicitDefEqProofs (disch := (first | omega | (simp; done) | fail)) [if_pos, if_neg, wrap_i64, tmod_pos, tdiv_pos, Int.toNat_add, hms] <;> first | rfl | omega) _ (hrt _) ?_
  rintro _ _ ⟨rfl, rfl⟩
  refine goesT_eq (by simp -implicitDefEqProofs (disch := (first | omega | (simp; done) | fail)) [if_pos, if_neg, wrap_i64, tmod_pos, tdiv_pos, Int.toNat_add, hml2, q1]; rfl) ?_
  refine goesT_done ?_
  (try simp only [vq, if_true, reduceIte, Nat.reduceEqDiff, reduceCtorEq])
  repeat (first | ((first | refine goes_done ?_ | refine awp_exit ?_ | refine awp_skip ?_ | refine awp_label ?_ | refine awp_ret ?_); (try simp only [vq, if_true, reduceIte, Nat.reduceEqDiff, reduceCtorEq])) | refine awp_seq ?_ | refine awp_region' (run_start (goes_eq (by simp -implicitDefEqProofs (disch := (first | omega | (simp; done) | fail)) [if_pos, if_neg, wrap_i64, tmod_pos, tdiv_pos, Int.toNat_add]; rfl) ?_)) | refine awp_block ?_ | refine awp_scope ?_ | refine awp_cond_t rfl ?_ | refine awp_cond_f rfl ?_)
  refine goes_callS (callable_of Try.func23) (by simp -implicitDefEqProofs (disch := (first | omega | (simp; done) | fail)) [if_pos, if_neg, wrap_i64, tmod_pos, tdiv_pos, Int.toNat_add, b8, List.map_append] <;> first | rfl | omega) _ (ofFrame_ok (X ++ [0]) .no (by simp; omega) _) ?_
  rintro _ _ ⟨rfl, rfl⟩
  rw [hmore]
  refine goes_eq (by simp -implicitDefEqProofs (disch := (first | omega | (simp; done) | fail)) [if_pos, if_neg, wrap_i64, tmod_pos, tdiv_pos, Int.toNat_add, z1, z2]; rfl) ?_
  repeat (first | ((first | refine goes_done ?_ | refine awp_exit ?_ | refine awp_skip ?_ | refine awp_label ?_ | refine awp_ret ?_); (try simp only [vq, if_true, reduceIte, Nat.reduceEqDiff, reduceCtorEq])) | refine awp_seq ?_ | refine awp_region' (run_start (goes_eq (by simp -implicitDefEqProofs (disch := (first | omega | (simp; done) | fail)) [if_pos, if_neg, wrap_i64, tmod_pos, tdiv_pos, Int.toNat_add]; rfl) ?_)) | refine awp_block ?_ | refine awp_scope ?_ | refine awp_cond_t rfl ?_ | refine awp_cond_f rfl ?_)
  exact ⟨[.dead, .dead, .dead, .dead, .tail 5 1, .cells Msg.zero.c], st_keep' (by simp []) (by simp [])⟩
theorem walk_CodeBack (x0 : Came) {w : World} (f0 : MsgAt w x0.v) (a1 : ByteArray) (w1 : a1.size ≤ maxLen) :
    Calls Try.prog 5 #[x0.v, .string a1] w fun e w' => e = .returned (.bool true) ∧ Below w.heap.size w w' := by
  obtain ⟨m, hm, h0⟩ := f0
  exact Law.calls (back m a1.data.toList hm []) w (vals_of (cells_cons h0 (cells_cons (rel_str _ _) (cells_nil _))))
end Go.Proofs.Ytdoaglcnncapdaa.D
