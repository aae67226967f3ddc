import Derived.Test.YtdoaglcnncapdaaDD
import Derived.Test.YtdoaglcnncapdaaD36
/- Messages as bytes: the law CodeShort. -/
set_option linter.unusedVariables false
set_option linter.unusedSimpArgs false
set_option maxRecDepth 20000
namespace Go.Proofs.Ytdoaglcnncapdaa.D
open Go Go.Proofs.Ytdoaglcnncapdaa.V Go.Proofs.Ytdoaglcnncapdaa.N Go.RowKit
theorem whole_cut {m : Msg} {c : Nat} (h : bads m.t = false) (hc : c < (flat m.t).length) : whole rdMsg .zero ((flat m.t).take c) = (.zero, 10) := by
  unfold whole
  rw [good_msg.cut m c h hc]
theorem short (m : Msg) (a : Int) (s : List UInt8) (ha : -9223372036854775808 ≤ a ∧ a ≤ 9223372036854775807) (hm : wts m.t ≤ 1050000) (h : AHeap) : ACalls Try.prog 9 [.agg m.c, .int .i64 a, .str s] h fun x h' => x = .bool true ∧ h' = h := by
  obtain ⟨hmo, hml⟩ := msg_fine hm
  have hms := msg_strip m
  have q1 : m.c.take 27 = m.c := rfl
  refine acalls_of_awp Try.func9 rfl (by simp only [List.length_cons, List.length_nil]; decide) ?_
  simp only [params_cons, params_nil]
  refine awp_seq ?_
  refine awp_region' (run_start (goes_eq (by simp -implicitDefEqProofs (disch := (first | omega | (simp; done) | fail)) [if_pos, if_neg, wrap_i64, tmod_pos, tdiv_pos, Int.toNat_add]; rfl) ?_))
  refine goes_done ?_
  (try simp only [vq, if_true, reduceIte, Nat.reduceEqDiff, reduceCtorEq])
  refine awp_hard (id := h.length) (by simp -implicitDefEqProofs; rfl) ?_
  simp -implicitDefEqProofs only [Slots.melt, AV.melt, Nat.add_left_cancel_iff, Nat.add_eq_left, Nat.left_eq_add, Nat.reduceEqDiff, reduceIte, Nat.succ_ne_self, Nat.one_ne_zero, Nat.zero_ne_one, List.set_append_right, List.set_append_left, Nat.sub_self, Nat.le_refl, Nat.add_sub_cancel_left, Nat.le_add_right, List.set_cons_zero, List.set_cons_succ]
  repeat (first | ((first | refine goes_done ?_ | refine awp_exit ?_ | refine awp_skip ?_ | refine awp_label ?_ | refine awp_ret ?_); (try simp only [vq, if_true, reduceIte, Nat.reduceEqDiff, reduceCtorEq])) | refine awp_seq ?_ | refine awp_region' (run_start (goes_eq (by simp -implicitDefEqProofs (disch := (first | omega | (simp; done) | fail)) [if_pos, if_neg, wrap_i64, tmod_pos, tdiv_pos, Int.toNat_add]; rfl) ?_)) | refine awp_block ?_ | refine awp_scope ?_ | refine awp_cond_t rfl ?_ | refine awp_cond_f rfl ?_)
  refine goes_callS (callable_of Try.func10) (by simp -implicitDefEqProofs (disch := (first | omega | (simp; done) | fail)) [if_pos, if_neg, wrap_i64, tmod_pos, tdiv_pos, Int.toNat_add] <;> first | rfl | omega) _ (works_ok _) ?_
  rintro _ h1 ⟨rfl, rfl⟩
  refine goes_eq (by simp -implicitDefEqProofs (disch := (first | omega | (simp; done) | fail)) [if_pos, if_neg, wrap_i64, tmod_pos, tdiv_pos, Int.toNat_add]; rfl) ?_
  repeat (first | ((first | refine goes_done ?_ | refine awp_exit ?_ | refine awp_skip ?_ | refine awp_label ?_ | refine awp_ret ?_); (try simp only [vq, if_true, reduceIte, Nat.reduceEqDiff, reduceCtorEq])) | refine awp_seq ?_ | refine awp_region' (run_start (goes_eq (by simp -implicitDefEqProofs (disch := (first | omega | (simp; done) | fail)) [if_pos, if_neg, wrap_i64, tmod_pos, tdiv_pos, Int.toNat_add, Msg.c_len, q1]; rfl) ?_)) | refine awp_block ?_ | refine awp_scope ?_ | refine awp_cond_t rfl ?_ | refine awp_cond_f rfl ?_)
  refine goes_callS (callable_of Try.func11) (by simp -implicitDefEqProofs (disch := (first | omega | (simp; done) | fail)) [if_pos, if_neg, wrap_i64, tmod_pos, tdiv_pos, Int.toNat_add, hms] <;> first | rfl | omega) _ (few_ok m _) ?_
  rintro _ _ ⟨⟨b1, rfl⟩, rfl⟩
  cases b1 with
  | false =>
    refine goes_eq (by simp -implicitDefEqProofs (disch := (first | omega | (simp; done) | fail)) [if_pos, if_neg, wrap_i64, tmod_pos, tdiv_pos, Int.toNat_add]; rfl) ?_
    repeat (first | ((first | refine goes_done ?_ | refine awp_exit ?_ | refine awp_skip ?_ | refine awp_label ?_ | refine awp_ret ?_); (try simp only [vq, if_true, reduceIte, Nat.reduceEqDiff, reduceCtorEq])) | refine awp_seq ?_ | refine awp_region' (run_start (goes_eq (by simp -implicitDefEqProofs (disch := (first | omega | (simp; done) | fail)) [if_pos, if_neg, wrap_i64, tmod_pos, tdiv_pos, Int.toNat_add]; rfl) ?_)) | refine awp_block ?_ | refine awp_scope ?_ | refine awp_cond_t rfl ?_ | refine awp_cond_f rfl ?_)
    first | refine body_pure (.inr rfl) (by simp -implicitDefEqProofs; rfl) (by simp -implicitDefEqProofs; rfl) (by simp) ?_ | refine body_pure (.inl rfl) (by simp -implicitDefEqProofs; rfl) (by simp -implicitDefEqProofs; rfl) (by simp) ?_
    simp
  | true =>
  by_cases h1 : (3000 : Int) < (s.length : Int)
  · refine goes_eq (by simp -implicitDefEqProofs (disch := (first | omega | (simp; done) | fail)) [if_pos, if_neg, wrap_i64, tmod_pos, tdiv_pos, Int.toNat_add, h1]; rfl) ?_
    repeat (first | ((first | refine goes_done ?_ | refine awp_exit ?_ | refine awp_skip ?_ | refine awp_label ?_ | refine awp_ret ?_); (try simp only [vq, if_true, reduceIte, Nat.reduceEqDiff, reduceCtorEq])) | refine awp_seq ?_ | refine awp_region' (run_start (goes_eq (by simp -implicitDefEqProofs (disch := (first | omega | (simp; done) | fail)) [if_pos, if_neg, wrap_i64, tmod_pos, tdiv_pos, Int.toNat_add]; rfl) ?_)) | refine awp_block ?_ | refine awp_scope ?_ | refine awp_cond_t rfl ?_ | refine awp_cond_f rfl ?_)
    first | refine body_pure (.inr rfl) (by simp -implicitDefEqProofs; rfl) (by simp -implicitDefEqProofs; rfl) (by simp) ?_ | refine body_pure (.inl rfl) (by simp -implicitDefEqProofs; rfl) (by simp -implicitDefEqProofs; rfl) (by simp) ?_
    simp
  by_cases h2 : s = []
  · subst h2
    refine goes_eq (by simp -implicitDefEqProofs (disch := (first | omega | (simp; done) | fail)) [if_pos, if_neg, wrap_i64, tmod_pos, tdiv_pos, Int.toNat_add, h1]; rfl) ?_
    repeat (first | ((first | refine goes_done ?_ | refine awp_exit ?_ | refine awp_skip ?_ | refine awp_label ?_ | refine awp_ret ?_); (try simp only [vq, if_true, reduceIte, Nat.reduceEqDiff, reduceCtorEq])) | refine awp_seq ?_ | refine awp_region' (run_start (goes_eq (by simp -implicitDefEqProofs (disch := (first | omega | (simp; done) | fail)) [if_pos, if_neg, wrap_i64, tmod_pos, tdiv_pos, Int.toNat_add]; rfl) ?_)) | refine awp_block ?_ | refine awp_scope ?_ | refine awp_cond_t rfl ?_ | refine awp_cond_f rfl ?_)
    first | refine body_pure (.inr rfl) (by simp -implicitDefEqProofs; rfl) (by simp -implicitDefEqProofs; rfl) (by simp) ?_ | refine body_pure (.inl rfl) (by simp -implicitDefEqProofs; rfl) (by simp -implicitDefEqProofs; rfl) (by simp) ?_
    simp
  have h3 : ((s.length : Int) == 0) = false := by
    simp only [beq_eq_false_iff_ne, ne_eq]
    intro h
    exact h2 (List.length_eq_zero_iff.1 (by omega))
  by_cases h4 : a < 0
  · refine goes_eq (by simp -implicitDefEqProofs (disch := (first | omega | (simp; done) | fail)) [if_pos, if_neg, wrap_i64, tmod_pos, tdiv_pos, Int.toNat_add, h1, h3, h4]; rfl) ?_
    repeat (first | ((first | refine goes_done ?_ | refine awp_exit ?_ | refine awp_skip ?_ | refine awp_label ?_ | refine awp_ret ?_); (try simp only [vq, if_true, reduceIte, Nat.reduceEqDiff, reduceCtorEq])) | refine awp_seq ?_ | refine awp_region' (run_start (goes_eq (by simp -implicitDefEqProofs (disch := (first | omega | (simp; done) | fail)) [if_pos, if_neg, wrap_i64, tmod_pos, tdiv_pos, Int.toNat_add]; rfl) ?_)) | refine awp_block ?_ | refine awp_scope ?_ | refine awp_cond_t rfl ?_ | refine awp_cond_f rfl ?_)
    first | refine body_pure (.inr rfl) (by simp -implicitDefEqProofs; rfl) (by simp -implicitDefEqProofs; rfl) (by simp) ?_ | refine body_pure (.inl rfl) (by simp -implicitDefEqProofs; rfl) (by simp -implicitDefEqProofs; rfl) (by simp) ?_
    simp
  obtain ⟨k, rfl⟩ : ∃ k : Nat, a = k := ⟨a.toNat, by omega⟩
  refine goes_eq (by simp -implicitDefEqProofs (disch := (first | omega | (simp; done) | fail)) [if_pos, if_neg, wrap_i64, tmod_pos, tdiv_pos, Int.toNat_add, h1, h3, h4]; rfl) ?_
  repeat (first | ((first | refine goes_done ?_ | refine awp_exit ?_ | refine awp_skip ?_ | refine awp_label ?_ | refine awp_ret ?_); (try simp only [vq, if_true, reduceIte, Nat.reduceEqDiff, reduceCtorEq])) | refine awp_seq ?_ | refine awp_region' (run_start (goes_eq (by simp -implicitDefEqProofs (disch := (first | omega | (simp; done) | fail)) [if_pos, if_neg, wrap_i64, tmod_pos, tdiv_pos, Int.toNat_add, Msg.c_len, q1]; rfl) ?_)) | refine awp_block ?_ | refine awp_scope ?_ | refine awp_cond_t rfl ?_ | refine awp_cond_f rfl ?_)
  refine goes_callS (callable_of Try.func12) (by simp -implicitDefEqProofs (disch := (first | omega | (simp; done) | fail)) [if_pos, if_neg, wrap_i64, tmod_pos, tdiv_pos, Int.toNat_add, hms] <;> first | rfl | omega) _ (msg_ok m hmo.few _) ?_
  rintro _ _ ⟨rfl, rfl⟩
  unfold outV
  cases hb : bads m.t with
  | true =>
    refine goes_eq (by simp -implicitDefEqProofs (disch := (first | omega | (simp; done) | fail)) [if_pos, if_neg, wrap_i64, tmod_pos, tdiv_pos, Int.toNat_add, outE]; rfl) ?_
    repeat (first | ((first | refine goes_done ?_ | refine awp_exit ?_ | refine awp_skip ?_ | refine awp_label ?_ | refine awp_ret ?_); (try simp only [vq, if_true, reduceIte, Nat.reduceEqDiff, reduceCtorEq])) | refine awp_seq ?_ | refine awp_region' (run_start (goes_eq (by simp -implicitDefEqProofs (disch := (first | omega | (simp; done) | fail)) [if_pos, if_neg, wrap_i64, tmod_pos, tdiv_pos, Int.toNat_add]; rfl) ?_)) | refine awp_block ?_ | refine awp_scope ?_ | refine awp_cond_t rfl ?_ | refine awp_cond_f rfl ?_)
    first | refine body_pure (.inr rfl) (by simp -implicitDefEqProofs; rfl) (by simp -implicitDefEqProofs; rfl) (by simp) ?_ | refine body_pure (.inl rfl) (by simp -implicitDefEqProofs; rfl) (by simp -implicitDefEqProofs; rfl) (by simp) ?_
    simp
  | false =>
  have hcut := fun c => whole_cut (c := c) hb
  have hmore := whole_more both_msg .zero m hb h2
  generalize flat m.t = l at *
  by_cases h5 : (l.length : Int) ≤ (k : Int)
  · refine goes_eq (by simp -implicitDefEqProofs (disch := (first | omega | (simp; done) | fail)) [if_pos, if_neg, wrap_i64, tmod_pos, tdiv_pos, Int.toNat_add, outB, outE, h5]; rfl) ?_
    repeat (first | ((first | refine goes_done ?_ | refine awp_exit ?_ | refine awp_skip ?_ | refine awp_label ?_ | refine awp_ret ?_); (try simp only [vq, if_true, reduceIte, Nat.reduceEqDiff, reduceCtorEq])) | refine awp_seq ?_ | refine awp_region' (run_start (goes_eq (by simp -implicitDefEqProofs (disch := (first | omega | (simp; done) | fail)) [if_pos, if_neg, wrap_i64, tmod_pos, tdiv_pos, Int.toNat_add, h5]; rfl) ?_)) | refine awp_block ?_ | refine awp_scope ?_ | refine awp_cond_t rfl ?_ | refine awp_cond_f rfl ?_)
    first | refine body_pure (.inr rfl) (by simp -implicitDefEqProofs; rfl) (by simp -implicitDefEqProofs; rfl) (by simp) ?_ | refine body_pure (.inl rfl) (by simp -implicitDefEqProofs; rfl) (by simp -implicitDefEqProofs; rfl) (by simp) ?_
    simp
  refine goes_eq (by simp -implicitDefEqProofs (disch := (first | omega | (simp; done) | fail)) [if_pos, if_neg, wrap_i64, tmod_pos, tdiv_pos, Int.toNat_add, outB, outE, h5]; rfl) ?_
  repeat (first | ((first | refine goes_done ?_ | refine awp_exit ?_ | refine awp_skip ?_ | refine awp_label ?_ | refine awp_ret ?_); (try simp only [vq, if_true, reduceIte, Nat.reduceEqDiff, reduceCtorEq])) | refine awp_seq ?_ | refine awp_region' (run_start (goes_eq (by simp -implicitDefEqProofs (disch := (first | omega | (simp; done) | fail)) [if_pos, if_neg, wrap_i64, tmod_pos, tdiv_pos, Int.toNat_add, h5]; rfl) ?_)) | refine awp_block ?_ | refine awp_scope ?_ | refine awp_cond_t rfl ?_ | refine awp_cond_f rfl ?_)
  refine goes_callS (callable_of Try.func17) (by simp -implicitDefEqProofs (disch := (first | omega | (simp; done) | fail)) [if_pos, if_neg, wrap_i64, tmod_pos, tdiv_pos, Int.toNat_add] <;> first | rfl | omega) _ (ofMsg_ok (l.take k) .no (by simp; omega) _) ?_
  rintro _ _ ⟨rfl, rfl⟩
  rw [hcut k (by omega)]
  have z1 : Msg.zero.c.length = 27 := rfl
  have z2 : ones Msg.zero.c = true := by simp [Msg.c, Msg.zero, Iid.zero, Bal.zero, Cmd.zero, Inst.zero, Snap.zero]
  refine goes_eq (by simp -implicitDefEqProofs (disch := (first | omega | (simp; done) | fail)) [if_pos, if_neg, wrap_i64, tmod_pos, tdiv_pos, Int.toNat_add, z1, z2]; rfl) ?_
  repeat (first | ((first | refine goes_done ?_ | refine awp_exit ?_ | refine awp_skip ?_ | refine awp_label ?_ | refine awp_ret ?_); (try simp only [vq, if_true, reduceIte, Nat.reduceEqDiff, reduceCtorEq])) | refine awp_seq ?_ | refine awp_region' (run_start (goes_eq (by simp -implicitDefEqProofs (disch := (first | omega | (simp; done) | fail)) [if_pos, if_neg, wrap_i64, tmod_pos, tdiv_pos, Int.toNat_add, z1, z2]; rfl) ?_)) | refine awp_block ?_ | refine awp_scope ?_ | refine awp_cond_t rfl ?_ | refine awp_cond_f rfl ?_)
  refine goes_callS (callable_of Try.func17) (by simp -implicitDefEqProofs (disch := (first | omega | (simp; done) | fail)) [if_pos, if_neg, wrap_i64, tmod_pos, tdiv_pos, Int.toNat_add] <;> first | rfl | omega) _ (ofMsg_ok (l ++ s) .no (by simp; omega) _) ?_
  rintro _ _ ⟨rfl, rfl⟩
  rw [hmore]
  refine goes_eq (by simp -implicitDefEqProofs (disch := (first | omega | (simp; done) | fail)) [if_pos, if_neg, wrap_i64, tmod_pos, tdiv_pos, Int.toNat_add, z1, z2]; rfl) ?_
  repeat (first | ((first | refine goes_done ?_ | refine awp_exit ?_ | refine awp_skip ?_ | refine awp_label ?_ | refine awp_ret ?_); (try simp only [vq, if_true, reduceIte, Nat.reduceEqDiff, reduceCtorEq])) | refine awp_seq ?_ | refine awp_region' (run_start (goes_eq (by simp -implicitDefEqProofs (disch := (first | omega | (simp; done) | fail)) [if_pos, if_neg, wrap_i64, tmod_pos, tdiv_pos, Int.toNat_add, z1, z2]; rfl) ?_)) | refine awp_block ?_ | refine awp_scope ?_ | refine awp_cond_t rfl ?_ | refine awp_cond_f rfl ?_)
  first | refine body_pure (.inr rfl) (by simp -implicitDefEqProofs; rfl) (by simp -implicitDefEqProofs; rfl) (by simp) ?_ | refine body_pure (.inl rfl) (by simp -implicitDefEqProofs; rfl) (by simp -implicitDefEqProofs; rfl) (by simp) ?_
  simp
theorem walk_CodeShort (x0 : Came) {w : World} (f0 : MsgAt w x0.v) (a1 : Int) (w1 : (Lit.int .i64 a1).wf = true) (a2 : ByteArray) (w2 : a2.size ≤ maxLen) :
    Calls Try.prog 9 #[x0.v, .int .i64 a1, .string a2] w fun e w' => e = .returned (.bool true) ∧ Below w.heap.size w w' := by
  obtain ⟨m, hm, h0⟩ := f0
  have hx : -9223372036854775808 ≤ a1 ∧ a1 ≤ 9223372036854775807 := by simp [Lit.wf, IntKind.min, IntKind.max, IntKind.signed, IntKind.bits] at w1; omega
  exact Law.calls (short m a1 a2.data.toList hx hm []) w (vals_of (cells_cons h0 (cells_cons (.int _ _) (cells_cons (rel_str _ _) (cells_nil _)))))
end Go.Proofs.Ytdoaglcnncapdaa.D
