import Derived.Test.YtdoaglcnncapdaaDD
/- Messages as bytes: the law CodeWrites. -/
set_option linter.unusedVariables false
set_option linter.unusedSimpArgs false
set_option maxRecDepth 20000
namespace Go.Proofs.Ytdoaglcnncapdaa.D
open Go Go.Proofs.Ytdoaglcnncapdaa.V Go.Proofs.Ytdoaglcnncapdaa.N Go.RowKit
theorem outV_or (l : List UInt8) (a b : Bool) : (if a then outV [] true else outV l b) = outV l (a || b) := by cases a <;> cases b <;> rfl
theorem sV_or (l : List UInt8) (a b : Bool) : (if a then sV [] true else sV l b) = sV l (a || b) := by cases a <;> cases b <;> rfl
theorem writes (m : Msg) (r : Rec) (hm : wts m.t ≤ 1050000) (hr : wts r.id.t + wts r.inst.t + wts r.snap.t ≤ 1050000) (h : AHeap) : ACalls Try.prog 3 [.agg m.c, .agg r.c] h fun x h' => x = .bool true ∧ h' = h := by
  obtain ⟨hmo, hml⟩ := msg_fine hm
  obtain ⟨hro, hrl⟩ := rec_fine hr
  have hms := msg_strip m
  have hrs := rec_strip r
  have q1 : m.c.take 27 = m.c := rfl
  have q2 : r.c.take 23 = r.c := rfl
  have q3 : (r.c.drop 4).take 15 = r.inst.c := rfl
  have q4 : (r.c.drop 19).take 4 = r.snap.c := rfl
  refine acalls_of_awp Try.func3 rfl (by simp only [List.length_cons, List.length_nil]; decide) ?_
  simp only [params_cons, params_nil]
  refine awp_seq ?_
  refine awp_region' (run_start (goes_eq (by simp -implicitDefEqProofs (disch := (first | omega | (simp; done) | fail)) [if_pos, if_neg, wrap_i64, tmod_pos, tdiv_pos, Int.toNat_add]; rfl) ?_))
  refine goes_done ?_
  (try simp only [vq, if_true, reduceIte, Nat.reduceEqDiff, reduceCtorEq])
  refine awp_hard (id := h.length) (by simp -implicitDefEqProofs; rfl) ?_
  simp -implicitDefEqProofs only [Slots.melt, AV.melt, Nat.add_left_cancel_iff, Nat.add_eq_left, Nat.left_eq_add, Nat.reduceEqDiff, reduceIte, Nat.succ_ne_self, Nat.one_ne_zero, Nat.zero_ne_one, List.set_append_right, List.set_append_left, Nat.sub_self, Nat.le_refl, Nat.add_sub_cancel_left, Nat.le_add_right, List.set_cons_zero, List.set_cons_succ]
  refine awp_hard (id := h.length + 1) (by simp -implicitDefEqProofs; rfl) ?_
  simp -implicitDefEqProofs only [Slots.melt, AV.melt, Nat.add_left_cancel_iff, Nat.add_eq_left, Nat.left_eq_add, Nat.reduceEqDiff, reduceIte, Nat.succ_ne_self, Nat.one_ne_zero, Nat.zero_ne_one, List.set_append_right, List.set_append_left, Nat.sub_self, Nat.le_refl, Nat.add_sub_cancel_left, Nat.le_add_right, List.set_cons_zero, List.set_cons_succ]
  repeat (first | ((first | refine goes_done ?_ | refine awp_exit ?_ | refine awp_skip ?_ | refine awp_label ?_ | refine awp_ret ?_); (try simp only [vq, if_true, reduceIte, Nat.reduceEqDiff, reduceCtorEq])) | refine awp_seq ?_ | refine awp_region' (run_start (goes_eq (by simp -implicitDefEqProofs (disch := (first | omega | (simp; done) | fail)) [if_pos, if_neg, wrap_i64, tmod_pos, tdiv_pos, Int.toNat_add]; rfl) ?_)) | refine awp_block ?_ | refine awp_scope ?_ | refine awp_cond_t rfl ?_ | refine awp_cond_f rfl ?_)
  refine goes_callS (callable_of Try.func10) (by simp -implicitDefEqProofs (disch := (first | omega | (simp; done) | fail)) [if_pos, if_neg, wrap_i64, tmod_pos, tdiv_pos, Int.toNat_add] <;> first | rfl | omega) _ (works_ok _) ?_
  rintro _ h1 ⟨rfl, rfl⟩
  refine goes_eq (by simp -implicitDefEqProofs (disch := (first | omega | (simp; done) | fail)) [if_pos, if_neg, wrap_i64, tmod_pos, tdiv_pos, Int.toNat_add]; rfl) ?_
  repeat (first | ((first | refine goes_done ?_ | refine awp_exit ?_ | refine awp_skip ?_ | refine awp_label ?_ | refine awp_ret ?_); (try simp only [vq, if_true, reduceIte, Nat.reduceEqDiff, reduceCtorEq])) | refine awp_seq ?_ | refine awp_region' (run_start (goes_eq (by simp -implicitDefEqProofs (disch := (first | omega | (simp; done) | fail)) [if_pos, if_neg, wrap_i64, tmod_pos, tdiv_pos, Int.toNat_add, Msg.c_len, q1]; rfl) ?_)) | refine awp_block ?_ | refine awp_scope ?_ | refine awp_cond_t rfl ?_ | refine awp_cond_f rfl ?_)
  refine goes_callS (callable_of Try.func11) (by simp -implicitDefEqProofs (disch := (first | omega | (simp; done) | fail)) [if_pos, if_neg, wrap_i64, tmod_pos, tdiv_pos, Int.toNat_add, hms] <;> first | rfl | omega) _ (few_ok m _) ?_
  rintro _ _ ⟨⟨b1, rfl⟩, rfl⟩
  cases b1 with
  | false =>
    refine goes_eq (by simp -implicitDefEqProofs (disch := (first | omega | (simp; done) | fail)) [if_pos, if_neg, wrap_i64, tmod_pos, tdiv_pos, Int.toNat_add]; rfl) ?_
    repeat (first | ((first | refine goes_done ?_ | refine awp_exit ?_ | refine awp_skip ?_ | refine awp_label ?_ | refine awp_ret ?_); (try simp only [vq, if_true, reduceIte, Nat.reduceEqDiff, reduceCtorEq])) | refine awp_seq ?_ | refine awp_region' (run_start (goes_eq (by simp -implicitDefEqProofs (disch := (first | omega | (simp; done) | fail)) [if_pos, if_neg, wrap_i64, tmod_pos, tdiv_pos, Int.toNat_add]; rfl) ?_)) | refine awp_block ?_ | refine awp_scope ?_ | refine awp_cond_t rfl ?_ | refine awp_cond_f rfl ?_)
    first | refine body_pure (.inr rfl) (by simp -implicitDefEqProofs; rfl) (by simp -implicitDefEqProofs; rfl) (by simp) ?_ | refine body_pure (.inl rfl) (by simp -implicitDefEqProofs; rfl) (by simp -implicitDefEqProofs; rfl) (by simp) ?_
    simp
  | true =>
  refine goes_eq (by simp -implicitDefEqProofs (disch := (first | omega | (simp; done) | fail)) [if_pos, if_neg, wrap_i64, tmod_pos, tdiv_pos, Int.toNat_add, Rec.c_len, q3, q4, Inst.c, Snap.c]; rfl) ?_
  refine goes_callS (callable_of Try.func11) (by simp -implicitDefEqProofs (disch := (first | omega | (simp; done) | fail)) [if_pos, if_neg, wrap_i64, tmod_pos, tdiv_pos, Int.toNat_add, Msg.c, Iid.zero, Bal.zero] <;> first | rfl | omega) _ (few_ok ⟨0, 0, 0, .zero, .zero, r.inst, r.snap⟩ _) ?_
  rintro _ _ ⟨⟨b2, rfl⟩, rfl⟩
  cases b2 with
  | false =>
    refine goes_eq (by simp -implicitDefEqProofs (disch := (first | omega | (simp; done) | fail)) [if_pos, if_neg, wrap_i64, tmod_pos, tdiv_pos, Int.toNat_add]; rfl) ?_
    repeat (first | ((first | refine goes_done ?_ | refine awp_exit ?_ | refine awp_skip ?_ | refine awp_label ?_ | refine awp_ret ?_); (try simp only [vq, if_true, reduceIte, Nat.reduceEqDiff, reduceCtorEq])) | refine awp_seq ?_ | refine awp_region' (run_start (goes_eq (by simp -implicitDefEqProofs (disch := (first | omega | (simp; done) | fail)) [if_pos, if_neg, wrap_i64, tmod_pos, tdiv_pos, Int.toNat_add]; rfl) ?_)) | refine awp_block ?_ | refine awp_scope ?_ | refine awp_cond_t rfl ?_ | refine awp_cond_f rfl ?_)
    first | refine body_pure (.inr rfl) (by simp -implicitDefEqProofs; rfl) (by simp -implicitDefEqProofs; rfl) (by simp) ?_ | refine body_pure (.inl rfl) (by simp -implicitDefEqProofs; rfl) (by simp -implicitDefEqProofs; rfl) (by simp) ?_
    simp
  | true =>
  refine goes_eq (by simp -implicitDefEqProofs (disch := (first | omega | (simp; done) | fail)) [if_pos, if_neg, wrap_i64, tmod_pos, tdiv_pos, Int.toNat_add]; rfl) ?_
  repeat (first | ((first | refine goes_done ?_ | refine awp_exit ?_ | refine awp_skip ?_ | refine awp_label ?_ | refine awp_ret ?_); (try simp only [vq, if_true, reduceIte, Nat.reduceEqDiff, reduceCtorEq])) | refine awp_seq ?_ | refine awp_region' (run_start (goes_eq (by simp -implicitDefEqProofs (disch := (first | omega | (simp; done) | fail)) [if_pos, if_neg, wrap_i64, tmod_pos, tdiv_pos, Int.toNat_add, Msg.c_len, q1]; rfl) ?_)) | refine awp_block ?_ | refine awp_scope ?_ | refine awp_cond_t rfl ?_ | refine awp_cond_f rfl ?_)
  refine goes_callS (callable_of Try.func12) (by simp -implicitDefEqProofs (disch := (first | omega | (simp; done) | fail)) [if_pos, if_neg, wrap_i64, tmod_pos, tdiv_pos, Int.toNat_add, hms] <;> first | rfl | omega) _ (msg_ok m hmo.few _) ?_
  rintro _ _ ⟨rfl, rfl⟩
  unfold outV
  refine goes_eq (by simp -implicitDefEqProofs (disch := (first | omega | (simp; done) | fail)) [if_pos, if_neg, wrap_i64, tmod_pos, tdiv_pos, Int.toNat_add]; rfl) ?_
  repeat (first | ((first | refine goes_done ?_ | refine awp_exit ?_ | refine awp_skip ?_ | refine awp_label ?_ | refine awp_ret ?_); (try simp only [vq, if_true, reduceIte, Nat.reduceEqDiff, reduceCtorEq])) | refine awp_seq ?_ | refine awp_region' (run_start (goes_eq (by simp -implicitDefEqProofs (disch := (first | omega | (simp; done) | fail)) [if_pos, if_neg, wrap_i64, tmod_pos, tdiv_pos, Int.toNat_add, Msg.c_len, q1]; rfl) ?_)) | refine awp_block ?_ | refine awp_scope ?_ | refine awp_cond_t rfl ?_ | refine awp_cond_f rfl ?_)
  refine goes_callS (callable_of Try.func13) (by simp -implicitDefEqProofs (disch := (first | omega | (simp; done) | fail)) [if_pos, if_neg, wrap_i64, tmod_pos, tdiv_pos, Int.toNat_add, hms] <;> first | rfl | omega) _ (rmsg_ok m hmo _) ?_
  rintro _ _ ⟨rfl, rfl⟩
  unfold sV
  refine goes_eq (by simp -implicitDefEqProofs (disch := (first | omega | (simp; done) | fail)) [if_pos, if_neg, wrap_i64, tmod_pos, tdiv_pos, Int.toNat_add]; rfl) ?_
  repeat (first | ((first | refine goes_done ?_ | refine awp_exit ?_ | refine awp_skip ?_ | refine awp_label ?_ | refine awp_ret ?_); (try simp only [vq, if_true, reduceIte, Nat.reduceEqDiff, reduceCtorEq])) | refine awp_seq ?_ | refine awp_region' (run_start (goes_eq (by simp -implicitDefEqProofs (disch := (first | omega | (simp; done) | fail)) [if_pos, if_neg, wrap_i64, tmod_pos, tdiv_pos, Int.toNat_add, Rec.c_len, q2]; rfl) ?_)) | refine awp_block ?_ | refine awp_scope ?_ | refine awp_cond_t rfl ?_ | refine awp_cond_f rfl ?_)
  refine goes_callS (callable_of Try.func14) (by simp -implicitDefEqProofs (disch := (first | omega | (simp; done) | fail)) [if_pos, if_neg, wrap_i64, tmod_pos, tdiv_pos, Int.toNat_add, hrs] <;> first | rfl | omega) _ (put_ok r hro.few _) ?_
  rintro _ _ ⟨rfl, rfl⟩
  rw [outV_or]
  unfold outV
  refine goes_eq (by simp -implicitDefEqProofs (disch := (first | omega | (simp; done) | fail)) [if_pos, if_neg, wrap_i64, tmod_pos, tdiv_pos, Int.toNat_add]; rfl) ?_
  repeat (first | ((first | refine goes_done ?_ | refine awp_exit ?_ | refine awp_skip ?_ | refine awp_label ?_ | refine awp_ret ?_); (try simp only [vq, if_true, reduceIte, Nat.reduceEqDiff, reduceCtorEq])) | refine awp_seq ?_ | refine awp_region' (run_start (goes_eq (by simp -implicitDefEqProofs (disch := (first | omega | (simp; done) | fail)) [if_pos, if_neg, wrap_i64, tmod_pos, tdiv_pos, Int.toNat_add, Rec.c_len, q2]; rfl) ?_)) | refine awp_block ?_ | refine awp_scope ?_ | refine awp_cond_t rfl ?_ | refine awp_cond_f rfl ?_)
  refine goes_callS (callable_of Try.func16) (by simp -implicitDefEqProofs (disch := (first | omega | (simp; done) | fail)) [if_pos, if_neg, wrap_i64, tmod_pos, tdiv_pos, Int.toNat_add, hrs] <;> first | rfl | omega) _ (of_ok r _) ?_
  rintro _ _ ⟨rfl, rfl⟩
  refine goes_eq (by simp -implicitDefEqProofs (disch := (first | omega | (simp; done) | fail)) [if_pos, if_neg, wrap_i64, tmod_pos, tdiv_pos, Int.toNat_add]; rfl) ?_
  refine goes_callS (callable_of Try.func15) (by simp -implicitDefEqProofs (disch := (first | omega | (simp; done) | fail)) [if_pos, if_neg, wrap_i64, tmod_pos, tdiv_pos, Int.toNat_add, hrs] <;> first | rfl | omega) _ (rput_ok r hro _) ?_
  rintro _ _ ⟨rfl, rfl⟩
  rw [sV_or]
  unfold sV
  generalize (r.bad || bads r.t) = br
  generalize bads m.t = bm
  generalize flat m.t = lm
  generalize flat r.t = lr
  cases bm with
  | false =>
    cases br with
    | false =>
      refine goes_eq (by simp -implicitDefEqProofs (disch := (first | omega | (simp; done) | fail)) [if_pos, if_neg, wrap_i64, tmod_pos, tdiv_pos, Int.toNat_add, outB, outE]; rfl) ?_
      repeat (first | ((first | refine goes_done ?_ | refine awp_exit ?_ | refine awp_skip ?_ | refine awp_label ?_ | refine awp_ret ?_); (try simp only [vq, if_true, reduceIte, Nat.reduceEqDiff, reduceCtorEq])) | refine awp_seq ?_ | refine awp_region' (run_start (goes_eq (by simp -implicitDefEqProofs (disch := (first | omega | (simp; done) | fail)) [if_pos, if_neg, wrap_i64, tmod_pos, tdiv_pos, Int.toNat_add]; rfl) ?_)) | refine awp_block ?_ | refine awp_scope ?_ | refine awp_cond_t rfl ?_ | refine awp_cond_f rfl ?_)
      first | refine body_pure (.inr rfl) (by simp -implicitDefEqProofs; rfl) (by simp -implicitDefEqProofs; rfl) (by simp) ?_ | refine body_pure (.inl rfl) (by simp -implicitDefEqProofs; rfl) (by simp -implicitDefEqProofs; rfl) (by simp) ?_
      simp
    | true =>
      refine goes_eq (by simp -implicitDefEqProofs (disch := (first | omega | (simp; done) | fail)) [if_pos, if_neg, wrap_i64, tmod_pos, tdiv_pos, Int.toNat_add, outB, outE]; rfl) ?_
      repeat (first | ((first | refine goes_done ?_ | refine awp_exit ?_ | refine awp_skip ?_ | refine awp_label ?_ | refine awp_ret ?_); (try simp only [vq, if_true, reduceIte, Nat.reduceEqDiff, reduceCtorEq])) | refine awp_seq ?_ | refine awp_region' (run_start (goes_eq (by simp -implicitDefEqProofs (disch := (first | omega | (simp; done) | fail)) [if_pos, if_neg, wrap_i64, tmod_pos, tdiv_pos, Int.toNat_add]; rfl) ?_)) | refine awp_block ?_ | refine awp_scope ?_ | refine awp_cond_t rfl ?_ | refine awp_cond_f rfl ?_)
      first | refine body_pure (.inr rfl) (by simp -implicitDefEqProofs; rfl) (by simp -implicitDefEqProofs; rfl) (by simp) ?_ | refine body_pure (.inl rfl) (by simp -implicitDefEqProofs; rfl) (by simp -implicitDefEqProofs; rfl) (by simp) ?_
      simp
  | true =>
    cases br with
    | false =>
      refine goes_eq (by simp -implicitDefEqProofs (disch := (first | omega | (simp; done) | fail)) [if_pos, if_neg, wrap_i64, tmod_pos, tdiv_pos, Int.toNat_add, outB, outE]; rfl) ?_
      repeat (first | ((first | refine goes_done ?_ | refine awp_exit ?_ | refine awp_skip ?_ | refine awp_label ?_ | refine awp_ret ?_); (try simp only [vq, if_true, reduceIte, Nat.reduceEqDiff, reduceCtorEq])) | refine awp_seq ?_ | refine awp_region' (run_start (goes_eq (by simp -implicitDefEqProofs (disch := (first | omega | (simp; done) | fail)) [if_pos, if_neg, wrap_i64, tmod_pos, tdiv_pos, Int.toNat_add]; rfl) ?_)) | refine awp_block ?_ | refine awp_scope ?_ | refine awp_cond_t rfl ?_ | refine awp_cond_f rfl ?_)
      first | refine body_pure (.inr rfl) (by simp -implicitDefEqProofs; rfl) (by simp -implicitDefEqProofs; rfl) (by simp) ?_ | refine body_pure (.inl rfl) (by simp -implicitDefEqProofs; rfl) (by simp -implicitDefEqProofs; rfl) (by simp) ?_
      simp
    | true =>
      refine goes_eq (by simp -implicitDefEqProofs (disch := (first | omega | (simp; done) | fail)) [if_pos, if_neg, wrap_i64, tmod_pos, tdiv_pos, Int.toNat_add, outB, outE]; rfl) ?_
      repeat (first | ((first | refine goes_done ?_ | refine awp_exit ?_ | refine awp_skip ?_ | refine awp_label ?_ | refine awp_ret ?_); (try simp only [vq, if_true, reduceIte, Nat.reduceEqDiff, reduceCtorEq])) | refine awp_seq ?_ | refine awp_region' (run_start (goes_eq (by simp -implicitDefEqProofs (disch := (first | omega | (simp; done) | fail)) [if_pos, if_neg, wrap_i64, tmod_pos, tdiv_pos, Int.toNat_add]; rfl) ?_)) | refine awp_block ?_ | refine awp_scope ?_ | refine awp_cond_t rfl ?_ | refine awp_cond_f rfl ?_)
      first | refine body_pure (.inr rfl) (by simp -implicitDefEqProofs; rfl) (by simp -implicitDefEqProofs; rfl) (by simp) ?_ | refine body_pure (.inl rfl) (by simp -implicitDefEqProofs; rfl) (by simp -implicitDefEqProofs; rfl) (by simp) ?_
      simp
theorem walk_CodeWrites (x0 : Came) {w : World} (f0 : MsgAt w x0.v) (x1 : Came) (f1 : RecAt w x1.v) :
    Calls Try.prog 3 #[x0.v, x1.v] w fun e w' => e = .returned (.bool true) ∧ Below w.heap.size w w' := by
  obtain ⟨m, hm, h0⟩ := f0
  obtain ⟨r, hr, h1⟩ := f1
  exact Law.calls (writes m r hm hr []) w (vals_of (cells_cons h0 (cells_cons h1 (cells_nil _))))
end Go.Proofs.Ytdoaglcnncapdaa.D
