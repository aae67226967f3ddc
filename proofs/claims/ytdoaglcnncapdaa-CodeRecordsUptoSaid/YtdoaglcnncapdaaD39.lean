import Derived.Test.YtdoaglcnncapdaaDD
import Derived.Test.YtdoaglcnncapdaaD36
/- Messages as bytes: the law CodeRecords. -/
set_option linter.unusedVariables false
set_option linter.unusedSimpArgs false
set_option maxRecDepth 20000
namespace Go.Proofs.Ytdoaglcnncapdaa.D
open Go Go.Proofs.Ytdoaglcnncapdaa.V Go.Proofs.Ytdoaglcnncapdaa.N Go.RowKit
theorem rec_whole (s : List UInt8) (h : (whole rdRec Rec.zero s).2 = 0) : (whole rdRec Rec.zero s).1.bad = false ∧ bads (whole rdRec Rec.zero s).1.t = false ∧ s = flat (whole rdRec Rec.zero s).1.t := by
  unfold whole at *
  cases hl : rdRec s with
  | error e => rw [hl] at h; simp only at h; subst h; exact absurd hl (rec_nz s)
  | ok p =>
    rw [hl] at h
    simp only at h ⊢
    by_cases hp : p.2 = []
    · simp only [hp, if_true]
      have := rec_read (x := p.1) (r := p.2) hl
      rw [hp] at this
      simpa using this
    · simp [hp] at h
theorem rec_small {x : Rec} (h1 : x.bad = false) (h2 : bads x.t = false) : wts x.id.t + wts x.inst.t + wts x.snap.t ≤ (flat x.t).length + 100 := by
  have hw := wts_flat _ h2
  cases x with
  | mk sl id inst snap =>
    cases sl with
    | true =>
      simp [Rec.bad] at h1
      obtain ⟨e1, e2⟩ := h1
      rw [iid_z] at e1; rw [inst_z] at e2
      subst e1; subst e2
      have z1 : wts Iid.zero.t = 3 := rfl
      have z2 : wts Inst.zero.t ≤ 90 := by decide
      simp only [Rec.t, if_true, wts_cons, Tk.wt] at hw ⊢
      omega
    | false =>
      simp [Rec.bad] at h1
      rw [snap_z] at h1
      subst h1
      have z2 : wts Snap.zero.t ≤ 90 := by decide
      simp only [Rec.t, Bool.false_eq_true, if_false, wts_cons, wts_app, Tk.wt] at hw ⊢
      omega
theorem outV_or2 (l : List UInt8) (a b : Bool) : (if a then outV [] true else outV l b) = outV l (a || b) := by cases a <;> cases b <;> rfl
theorem put_fine {r : Rec} (hf : r.Few) (h1 : r.bad = false) (h2 : bads r.t = false) (h : AHeap) : ACalls Try.prog 14 [.agg r.c] h fun x h' => x = .tuple [.list ((flat r.t).map b8) .no, .int .i64 0] ∧ h' = h := by
  have := put_ok r hf h
  rw [outV_or2, h1, h2] at this
  exact this
theorem records (r : Rec) (s : List UInt8) (m : Msg) (hm : wts m.t ≤ 1050000) (hr : wts r.id.t + wts r.inst.t + wts r.snap.t ≤ 1050000) (h : AHeap) : ACalls Try.prog 7 [.agg r.c, .str s, .agg m.c] h fun x h' => x = .bool true ∧ h' = h := by
  obtain ⟨hmo, hml⟩ := msg_fine hm
  obtain ⟨hro, hrl⟩ := rec_fine hr
  have hms := msg_strip m
  have hrs := rec_strip r
  have q1 : m.c.take 27 = m.c := rfl
  have q2 : r.c.take 23 = r.c := rfl
  have q3 : (r.c.drop 4).take 15 = r.inst.c := rfl
  have q4 : (r.c.drop 19).take 4 = r.snap.c := rfl
  refine acalls_of_awp Try.func7 rfl (by simp only [List.length_cons, List.length_nil]; decide) ?_
  simp only [params_cons, params_nil]
  refine awp_seq ?_
  refine awp_region' (run_start (goes_eq (by simp -implicitDefEqProofs (disch := (first | omega | (simp; done) | fail)) [if_pos, if_neg, wrap_i64, tmod_pos, tdiv_pos, Int.toNat_add]; rfl) ?_))
  refine goes_done ?_
  (try simp only [vq, if_true, reduceIte, Nat.reduceEqDiff, reduceCtorEq])
  refine awp_hard (id := h.length) (by simp -implicitDefEqProofs; rfl) ?_
  simp -implicitDefEqProofs only [Slots.melt, AV.melt, Nat.add_left_cancel_iff, Nat.add_eq_left, Nat.left_eq_add, Nat.reduceEqDiff, reduceIte, Nat.succ_ne_self, Nat.one_ne_zero, Nat.zero_ne_one, List.set_append_right, List.set_append_left, Nat.sub_self, Nat.le_refl, Nat.add_sub_cancel_left, Nat.le_add_right, List.set_cons_zero, List.set_cons_succ]
  refine awp_hard (id := h.length + 1) (by simp -implicitDefEqProofs; rfl) ?_
  simp -implicitDefEqProofs only [Slots.melt, AV.melt, Nat.add_left_cancel_iff, Nat.add_eq_left, Nat.left_eq_add, Nat.reduceEqDiff, reduceIte, Nat.succ_ne_self, Nat.one_ne_zero, Nat.zero_ne_one, List.set_append_right, List.set_append_left, Nat.sub_self, Nat.le_refl, Nat.add_sub_cancel_left, Nat.le_add_right, List.set_cons_zero, List.set_cons_succ]
  repeat (first | ((first | refine goes_done ?_ | refine awp_exit ?_ | refine awp_skip ?_ | refine awp_label ?_ | refine awp_ret ?_); (try simp only [vq, if_true, reduceIte, Nat.reduceEqDiff, reduceCtorEq])) | refine awp_seq ?_ | refine awp_region' (run_start (goes_eq (by simp -implicitDefEqProofs (disch := (first | omega | (simp; done) | fail)) [if_pos, if_neg, wrap_i64, tmod_pos, tdiv_pos, Int.toNat_add]; rfl) ?_)) | refine awp_block ?_ | refine awp_scope ?_ | refine awp_cond_t rfl ?_ | refine awp_cond_f rfl ?_)
  refine goes_callS (callable_of Try.func10) (by simp -implicitDefEqProofs (disch := (first | omega | (simp; done) | fail)) [if_pos, if_neg, wrap_i64, tmod_pos, tdiv_pos, Int.toNat_add] <;> first | rfl | omega) _ (works_ok _) ?_
  rintro _ h1 ⟨rfl, rfl⟩
  refine goes_eq (by simp -implicitDefEqProofs (disch := (first | omega | (simp; done) | fail)) [if_pos, if_neg, wrap_i64, tmod_pos, tdiv_pos, Int.toNat_add]; rfl) ?_
  repeat (first | ((first | refine goes_done ?_ | refine awp_exit ?_ | refine awp_skip ?_ | refine awp_label ?_ | refine awp_ret ?_); (try simp only [vq, if_true, reduceIte, Nat.reduceEqDiff, reduceCtorEq])) | refine awp_seq ?_ | refine awp_region' (run_start (goes_eq (by simp -implicitDefEqProofs (disch := (first | omega | (simp; done) | fail)) [if_pos, if_neg, wrap_i64, tmod_pos, tdiv_pos, Int.toNat_add, Msg.c_len, q1]; rfl) ?_)) | refine awp_block ?_ | refine awp_scope ?_ | refine awp_cond_t rfl ?_ | refine awp_cond_f rfl ?_)
  refine goes_callS (callable_of Try.func11) (by simp -implicitDefEqProofs (disch := (first | omega | (simp; done) | fail)) [if_pos, if_neg, wrap_i64, tmod_pos, tdiv_pos, Int.toNat_add, hms] <;> first | rfl | omega) _ (few_ok m _) ?_
  rintro _ _ ⟨⟨b1, rfl⟩, rfl⟩
  cases b1 with
  | false =>
    refine goes_eq (by simp -implicitDefEqProofs (disch := (first | omega | (simp; done) | fail)) [if_pos, if_neg, wrap_i64, tmod_pos, tdiv_pos, Int.toNat_add]; rfl) ?_
    repeat (first | ((first | refine goes_done ?_ | refine awp_exit ?_ | refine awp_skip ?_ | refine awp_label ?_ | refine awp_ret ?_); (try simp only [vq, if_true, reduceIte, Nat.reduceEqDiff, reduceCtorEq])) | refine awp_seq ?_ | refine awp_region' (run_start (goes_eq (by simp -implicitDefEqProofs (disch := (first | omega | (simp; done) | fail)) [if_pos, if_neg, wrap_i64, tmod_pos, tdiv_pos, Int.toNat_add]; rfl) ?_)) | refine awp_block ?_ | refine awp_scope ?_ | refine awp_cond_t rfl ?_ | refine awp_cond_f rfl ?_)
    first | refine body_pure (.inr rfl) (by simp -implicitDefEqProofs; rfl) (by simp -implicitDefEqProofs; rfl) (by simp) ?_ | refine body_pure (.inl rfl) (by simp -implicitDefEqProofs; rfl) (by simp -implicitDefEqProofs; rfl) (by simp) ?_
    simp
  | true =>
  refine goes_eq (by simp -implicitDefEqProofs (disch := (first | omega | (simp; done) | fail)) [if_pos, if_neg, wrap_i64, tmod_pos, tdiv_pos, Int.toNat_add, Rec.c_len, q3, q4, Inst.c, Snap.c]; rfl) ?_
  refine goes_callS (callable_of Try.func11) (by simp -implicitDefEqProofs (disch := (first | omega | (simp; done) | fail)) [if_pos, if_neg, wrap_i64, tmod_pos, tdiv_pos, Int.toNat_add, Msg.c, Iid.zero, Bal.zero] <;> first | rfl | omega) _ (few_ok ⟨0, 0, 0, .zero, .zero, r.inst, r.snap⟩ _) ?_
  rintro _ _ ⟨⟨b2, rfl⟩, rfl⟩
  cases b2 with
  | false =>
    refine goes_eq (by simp -implicitDefEqProofs (disch := (first | omega | (simp; done) | fail)) [if_pos, if_neg, wrap_i64, tmod_pos, tdiv_pos, Int.toNat_add]; rfl) ?_
    repeat (first | ((first | refine goes_done ?_ | refine awp_exit ?_ | refine awp_skip ?_ | refine awp_label ?_ | refine awp_ret ?_); (try simp only [vq, if_true, reduceIte, Nat.reduceEqDiff, reduceCtorEq])) | refine awp_seq ?_ | refine awp_region' (run_start (goes_eq (by simp -implicitDefEqProofs (disch := (first | omega | (simp; done) | fail)) [if_pos, if_neg, wrap_i64, tmod_pos, tdiv_pos, Int.toNat_add]; rfl) ?_)) | refine awp_block ?_ | refine awp_scope ?_ | refine awp_cond_t rfl ?_ | refine awp_cond_f rfl ?_)
    first | refine body_pure (.inr rfl) (by simp -implicitDefEqProofs; rfl) (by simp -implicitDefEqProofs; rfl) (by simp) ?_ | refine body_pure (.inl rfl) (by simp -implicitDefEqProofs; rfl) (by simp -implicitDefEqProofs; rfl) (by simp) ?_
    simp
  | true =>
  by_cases h1 : (3000 : Int) < (s.length : Int)
  · refine goes_eq (by simp -implicitDefEqProofs (disch := (first | omega | (simp; done) | fail)) [if_pos, if_neg, wrap_i64, tmod_pos, tdiv_pos, Int.toNat_add, h1]; rfl) ?_
    repeat (first | ((first | refine goes_done ?_ | refine awp_exit ?_ | refine awp_skip ?_ | refine awp_label ?_ | refine awp_ret ?_); (try simp only [vq, if_true, reduceIte, Nat.reduceEqDiff, reduceCtorEq])) | refine awp_seq ?_ | refine awp_region' (run_start (goes_eq (by simp -implicitDefEqProofs (disch := (first | omega | (simp; done) | fail)) [if_pos, if_neg, wrap_i64, tmod_pos, tdiv_pos, Int.toNat_add]; rfl) ?_)) | refine awp_block ?_ | refine awp_scope ?_ | refine awp_cond_t rfl ?_ | refine awp_cond_f rfl ?_)
    first | refine body_pure (.inr rfl) (by simp -implicitDefEqProofs; rfl) (by simp -implicitDefEqProofs; rfl) (by simp) ?_ | refine body_pure (.inl rfl) (by simp -implicitDefEqProofs; rfl) (by simp -implicitDefEqProofs; rfl) (by simp) ?_
    simp
  refine goes_eq (by simp -implicitDefEqProofs (disch := (first | omega | (simp; done) | fail)) [if_pos, if_neg, wrap_i64, tmod_pos, tdiv_pos, Int.toNat_add, h1]; rfl) ?_
  repeat (first | ((first | refine goes_done ?_ | refine awp_exit ?_ | refine awp_skip ?_ | refine awp_label ?_ | refine awp_ret ?_); (try simp only [vq, if_true, reduceIte, Nat.reduceEqDiff, reduceCtorEq])) | refine awp_seq ?_ | refine awp_region' (run_start (goes_eq (by simp -implicitDefEqProofs (disch := (first | omega | (simp; done) | fail)) [if_pos, if_neg, wrap_i64, tmod_pos, tdiv_pos, Int.toNat_add, Rec.c_len, q2]; rfl) ?_)) | refine awp_block ?_ | refine awp_scope ?_ | refine awp_cond_t rfl ?_ | refine awp_cond_f rfl ?_)
  refine goes_callS (callable_of Try.func14) (by simp -implicitDefEqProofs (disch := (first | omega | (simp; done) | fail)) [if_pos, if_neg, wrap_i64, tmod_pos, tdiv_pos, Int.toNat_add, hrs] <;> first | rfl | omega) _ (put_ok r hro.few _) ?_
  rintro _ _ ⟨rfl, rfl⟩
  rw [outV_or2]
  unfold outV
  refine goes_eq (by simp -implicitDefEqProofs (disch := (first | omega | (simp; done) | fail)) [if_pos, if_neg, wrap_i64, tmod_pos]; rfl) ?_
  refine goes_done ?_
  (try simp only [vq, if_true, reduceIte, Nat.reduceEqDiff, reduceCtorEq])
  refine awp_cut (fun st' => ∃ y, st'.le ⟨Try.f7.ntmps, [(7, .bool true), (1, .str s), (5, .ref m.c 0)], h ++ y⟩) ?_ ?_
  · have hro2 : ones r.c = true := by simp [Rec.c]
    have q6 : r.c[0]? = some (.bool r.sl) := rfl
    have q7 : r.c[1]? = some (iv r.id.e) := rfl
    have q8 : r.c[2]? = some (iv r.id.n) := rfl
    have q9 : r.c[3]? = some (iv r.id.o) := rfl
    cases hbb : (r.bad || bads r.t) with
    | true =>
      repeat (first | ((first | refine goes_done ?_ | refine awp_exit ?_ | refine awp_skip ?_ | refine awp_label ?_ | refine awp_ret ?_); (try simp only [vq, if_true, reduceIte, Nat.reduceEqDiff, reduceCtorEq])) | refine awp_seq ?_ | refine awp_region' (run_start (goes_eq (by simp -implicitDefEqProofs (disch := (first | omega | (simp; done) | fail)) [if_pos, if_neg, wrap_i64, tmod_pos, tdiv_pos, Int.toNat_add, outB, outE]; rfl) ?_)) | refine awp_block ?_ | refine awp_scope ?_ | refine awp_cond_t rfl ?_ | refine awp_cond_f rfl ?_)
      exact ⟨[.dead, .dead], st_keep' (by simp []) (by simp [])⟩
    | false =>
    have hb3 := hbb
    rw [Bool.or_eq_false_iff] at hb3
    have hwb := rec_back hb3.1 hb3.2 .zero
    have hpt := put_fine hro.few hb3.1 hb3.2
    generalize flat r.t = l at *
    clear hb3
    repeat (first | ((first | refine goes_done ?_ | refine awp_exit ?_ | refine awp_skip ?_ | refine awp_label ?_ | refine awp_ret ?_); (try simp only [vq, if_true, reduceIte, Nat.reduceEqDiff, reduceCtorEq])) | refine awp_seq ?_ | refine awp_region' (run_start (goes_eq (by simp -implicitDefEqProofs (disch := (first | omega | (simp; done) | fail)) [if_pos, if_neg, wrap_i64, tmod_pos, tdiv_pos, Int.toNat_add, outB, outE]; rfl) ?_)) | refine awp_block ?_ | refine awp_scope ?_ | refine awp_cond_t rfl ?_ | refine awp_cond_f rfl ?_)
    refine goes_callS (callable_of Try.func19) (by simp -implicitDefEqProofs (disch := (first | omega | (simp; done) | fail)) [if_pos, if_neg, wrap_i64, tmod_pos, tdiv_pos, Int.toNat_add] <;> first | rfl | omega) _ (get_ok l .no (by omega) _) ?_
    rintro _ _ ⟨rfl, rfl⟩
    rw [hwb]
    refine goes_eq (by simp -implicitDefEqProofs (disch := (first | omega | (simp; done) | fail)) [if_pos, if_neg, wrap_i64, tmod_pos, tdiv_pos, Int.toNat_add, Rec.c_len, hro2]; rfl) ?_
    refine goes_done ?_
    simp only [vq, if_true, reduceIte, Nat.reduceEqDiff, reduceCtorEq]
    refine awp_hard (id := h.length + 2) (by simp -implicitDefEqProofs; rfl) ?_
    simp -implicitDefEqProofs only [Slots.melt, AV.melt, Nat.add_left_cancel_iff, Nat.add_eq_left, Nat.left_eq_add, Nat.reduceEqDiff, reduceIte, Nat.succ_ne_self, Nat.one_ne_zero, Nat.zero_ne_one, List.set_append_right, List.set_append_left, Nat.sub_self, Nat.le_refl, Nat.add_sub_cancel_left, Nat.le_add_right, List.set_cons_zero, List.set_cons_succ]
    repeat (first | ((first | refine goes_done ?_ | refine awp_exit ?_ | refine awp_skip ?_ | refine awp_label ?_ | refine awp_ret ?_); (try simp only [vq, if_true, reduceIte, Nat.reduceEqDiff, reduceCtorEq])) | refine awp_seq ?_ | refine awp_region' (run_start (goes_eq (by simp -implicitDefEqProofs (disch := (first | omega | (simp; done) | fail)) [if_pos, if_neg, wrap_i64, tmod_pos, tdiv_pos, Int.toNat_add, Rec.c_len, q2]; rfl) ?_)) | refine awp_block ?_ | refine awp_scope ?_ | refine awp_cond_t rfl ?_ | refine awp_cond_f rfl ?_)
    refine goes_callS (callable_of Try.func14) (by simp -implicitDefEqProofs (disch := (first | omega | (simp; done) | fail)) [if_pos, if_neg, wrap_i64, tmod_pos, tdiv_pos, Int.toNat_add, hrs] <;> first | rfl | omega) _ (hpt _) ?_
    rintro _ _ ⟨rfl, rfl⟩
    refine goes_eq (by simp -implicitDefEqProofs (disch := (first | omega | (simp; done) | fail)) [if_pos, if_neg, wrap_i64, tmod_pos, tdiv_pos, Int.toNat_add]; rfl) ?_
    repeat (first | ((first | refine goes_done ?_ | refine awp_exit ?_ | refine awp_skip ?_ | refine awp_label ?_ | refine awp_ret ?_); (try simp only [vq, if_true, reduceIte, Nat.reduceEqDiff, reduceCtorEq])) | refine awp_seq ?_ | refine awp_region' (run_start (goes_eq (by simp -implicitDefEqProofs (disch := (first | omega | (simp; done) | fail)) [if_pos, if_neg, wrap_i64, tmod_pos, tdiv_pos, Int.toNat_add, Rec.c_len, q6, q7, q8, q9]; rfl) ?_)) | refine awp_block ?_ | refine awp_scope ?_ | refine awp_cond_t rfl ?_ | refine awp_cond_f rfl ?_)
    exact ⟨[.dead, .dead, .dead], st_keep' (by simp []) (by simp [])⟩
  · rintro st' ⟨y, hle⟩
    refine awp_le hle ?_
    clear hle
    repeat (first | ((first | refine goes_done ?_ | refine awp_exit ?_ | refine awp_skip ?_ | refine awp_label ?_ | refine awp_ret ?_); (try simp only [vq, if_true, reduceIte, Nat.reduceEqDiff, reduceCtorEq])) | refine awp_seq ?_ | refine awp_region' (run_start (goes_eq (by simp -implicitDefEqProofs (disch := (first | omega | (simp; done) | fail)) [if_pos, if_neg, wrap_i64, tmod_pos, tdiv_pos, Int.toNat_add]; rfl) ?_)) | refine awp_block ?_ | refine awp_scope ?_ | refine awp_cond_t rfl ?_ | refine awp_cond_f rfl ?_)
    refine goes_callS (callable_of Try.func19) (by simp -implicitDefEqProofs (disch := (first | omega | (simp; done) | fail)) [if_pos, if_neg, wrap_i64, tmod_pos, tdiv_pos, Int.toNat_add] <;> first | rfl | omega) _ (get_ok s .no (by omega) _) ?_
    rintro _ _ ⟨rfl, rfl⟩
    have hw := rec_whole s
    generalize whole rdRec .zero s = w at *
    have hwl := Rec.c_len w.1
    have hwo : ones w.1.c = true := by simp [Rec.c]
    have hws := rec_strip w.1
    have q5 : w.1.c.take 23 = w.1.c := rfl
    refine goes_eq (by simp -implicitDefEqProofs (disch := (first | omega | (simp; done) | fail)) [if_pos, if_neg, wrap_i64, tmod_pos, tdiv_pos, Int.toNat_add, hwl, hwo]; rfl) ?_
    refine goes_done ?_
    simp only [vq, if_true, reduceIte, Nat.reduceEqDiff, reduceCtorEq]
    refine awp_cut (fun st' => ∃ y, st'.le ⟨Try.f7.ntmps, [(7, .bool true), (5, .ref m.c 0)], h ++ y⟩) ?_ ?_
    · by_cases hz : w.2 = 0
      · obtain ⟨hb1, hb2, hs⟩ := hw hz
        have hwt := rec_small hb1 hb2
        obtain ⟨hwo2, hwl2⟩ := rec_fine (r := w.1) (by rw [← hs] at hwt; omega)
        have hpt := put_fine hwo2.few hb1 hb2
        rw [← hs] at hpt
        rw [hz]
        repeat (first | ((first | refine goes_done ?_ | refine awp_exit ?_ | refine awp_skip ?_ | refine awp_label ?_ | refine awp_ret ?_); (try simp only [vq, if_true, reduceIte, Nat.reduceEqDiff, reduceCtorEq])) | refine awp_seq ?_ | refine awp_region' (run_start (goes_eq (by simp -implicitDefEqProofs (disch := (first | omega | (simp; done) | fail)) [if_pos, if_neg, wrap_i64, tmod_pos, tdiv_pos, Int.toNat_add, hwl, q5]; rfl) ?_)) | refine awp_block ?_ | refine awp_scope ?_ | refine awp_cond_t rfl ?_ | refine awp_cond_f rfl ?_)
        refine goes_callS (callable_of Try.func14) (by simp -implicitDefEqProofs (disch := (first | omega | (simp; done) | fail)) [if_pos, if_neg, wrap_i64, tmod_pos, tdiv_pos, Int.toNat_add, hws] <;> first | rfl | omega) _ (hpt _) ?_
        rintro _ _ ⟨rfl, rfl⟩
        refine goes_eq (by simp -implicitDefEqProofs (disch := (first | omega | (simp; done) | fail)) [if_pos, if_neg, wrap_i64, tmod_pos, tdiv_pos, Int.toNat_add]; rfl) ?_
        repeat (first | ((first | refine goes_done ?_ | refine awp_exit ?_ | refine awp_skip ?_ | refine awp_label ?_ | refine awp_ret ?_); (try simp only [vq, if_true, reduceIte, Nat.reduceEqDiff, reduceCtorEq])) | refine awp_seq ?_ | refine awp_region' (run_start (goes_eq (by simp -implicitDefEqProofs (disch := (first | omega | (simp; done) | fail)) [if_pos, if_neg, wrap_i64, tmod_pos, tdiv_pos, Int.toNat_add]; rfl) ?_)) | refine awp_block ?_ | refine awp_scope ?_ | refine awp_cond_t rfl ?_ | refine awp_cond_f rfl ?_)
        exact ⟨y ++ [.cells w.1.c], st_keep' (by simp []) (by simp [])⟩
      · have hz2 : ((w.2 : Int) == 0) = false := by simp; omega
        repeat (first | ((first | refine goes_done ?_ | refine awp_exit ?_ | refine awp_skip ?_ | refine awp_label ?_ | refine awp_ret ?_); (try simp only [vq, if_true, reduceIte, Nat.reduceEqDiff, reduceCtorEq])) | refine awp_seq ?_ | refine awp_region' (run_start (goes_eq (by simp -implicitDefEqProofs (disch := (first | omega | (simp; done) | fail)) [if_pos, if_neg, wrap_i64, tmod_pos, tdiv_pos, Int.toNat_add, hz2]; rfl) ?_)) | refine awp_block ?_ | refine awp_scope ?_ | refine awp_cond_t rfl ?_ | refine awp_cond_f rfl ?_)
        exact ⟨y ++ [.cells w.1.c], st_keep' (by simp []) (by simp [])⟩
    · clear hw hwl hwo hws q5
      clear w
      rintro st' ⟨y, hle⟩
      refine awp_le hle ?_
      clear hle
      repeat (first | ((first | refine goes_done ?_ | refine awp_exit ?_ | refine awp_skip ?_ | refine awp_label ?_ | refine awp_ret ?_); (try simp only [vq, if_true, reduceIte, Nat.reduceEqDiff, reduceCtorEq])) | refine awp_seq ?_ | refine awp_region' (run_start (goes_eq (by simp -implicitDefEqProofs (disch := (first | omega | (simp; done) | fail)) [if_pos, if_neg, wrap_i64, tmod_pos, tdiv_pos, Int.toNat_add, Msg.c_len, q1]; rfl) ?_)) | refine awp_block ?_ | refine awp_scope ?_ | refine awp_cond_t rfl ?_ | refine awp_cond_f rfl ?_)
      refine goes_callS (callable_of Try.func22) (by simp -implicitDefEqProofs (disch := (first | omega | (simp; done) | fail)) [if_pos, if_neg, wrap_i64, tmod_pos, tdiv_pos, Int.toNat_add, hms] <;> first | rfl | omega) _ (frame_ok m hmo.few hml _) ?_
      rintro _ _ ⟨rfl, rfl⟩
      have f1 : frameV m = .tuple [.list ((outB (F.fr (flat m.t)) (bads m.t)).map b8) .no, .int .i64 (outE (bads m.t))] := by unfold frameV outB outE; cases bads m.t <;> rfl
      rw [f1]
      refine goes_eq (by simp -implicitDefEqProofs (disch := (first | omega | (simp; done) | fail)) [if_pos, if_neg, wrap_i64, tmod_pos, tdiv_pos, Int.toNat_add]; rfl) ?_
      repeat (first | ((first | refine goes_done ?_ | refine awp_exit ?_ | refine awp_skip ?_ | refine awp_label ?_ | refine awp_ret ?_); (try simp only [vq, if_true, reduceIte, Nat.reduceEqDiff, reduceCtorEq])) | refine awp_seq ?_ | refine awp_region' (run_start (goes_eq (by simp -implicitDefEqProofs (disch := (first | omega | (simp; done) | fail)) [if_pos, if_neg, wrap_i64, tmod_pos, tdiv_pos, Int.toNat_add, Msg.c_len, q1]; rfl) ?_)) | refine awp_block ?_ | refine awp_scope ?_ | refine awp_cond_t rfl ?_ | refine awp_cond_f rfl ?_)
      refine goes_callS (callable_of Try.func13) (by simp -implicitDefEqProofs (disch := (first | omega | (simp; done) | fail)) [if_pos, if_neg, wrap_i64, tmod_pos, tdiv_pos, Int.toNat_add, hms] <;> first | rfl | omega) _ (rmsg_ok m hmo _) ?_
      rintro _ _ ⟨rfl, rfl⟩
      unfold sV
      cases hb : bads m.t with
      | true =>
        refine goes_eq (by simp -implicitDefEqProofs (disch := (first | omega | (simp; done) | fail)) [if_pos, if_neg, wrap_i64, tmod_pos, tdiv_pos, Int.toNat_add, outB, outE]; rfl) ?_
        repeat (first | ((first | refine goes_done ?_ | refine awp_exit ?_ | refine awp_skip ?_ | refine awp_label ?_ | refine awp_ret ?_); (try simp only [vq, if_true, reduceIte, Nat.reduceEqDiff, reduceCtorEq])) | refine awp_seq ?_ | refine awp_region' (run_start (goes_eq (by simp -implicitDefEqProofs (disch := (first | omega | (simp; done) | fail)) [if_pos, if_neg, wrap_i64, tmod_pos, tdiv_pos, Int.toNat_add]; rfl) ?_)) | refine awp_block ?_ | refine awp_scope ?_ | refine awp_cond_t rfl ?_ | refine awp_cond_f rfl ?_)
        first | refine body_pure (.inr rfl) (by simp -implicitDefEqProofs; rfl) (by simp -implicitDefEqProofs; rfl) (by simp) ?_ | refine body_pure (.inl rfl) (by simp -implicitDefEqProofs; rfl) (by simp -implicitDefEqProofs; rfl) (by simp) ?_
        simp
      | false =>
      refine goes_eq (by simp -implicitDefEqProofs (disch := (first | omega | (simp; done) | fail)) [if_pos, if_neg, wrap_i64, tmod_pos, tdiv_pos, Int.toNat_add, outB, outE]; rfl) ?_
      repeat (first | ((first | refine goes_done ?_ | refine awp_exit ?_ | refine awp_skip ?_ | refine awp_label ?_ | refine awp_ret ?_); (try simp only [vq, if_true, reduceIte, Nat.reduceEqDiff, reduceCtorEq])) | refine awp_seq ?_ | refine awp_region' (run_start (goes_eq (by simp -implicitDefEqProofs (disch := (first | omega | (simp; done) | fail)) [if_pos, if_neg, wrap_i64, tmod_pos, tdiv_pos, Int.toNat_add]; rfl) ?_)) | refine awp_block ?_ | refine awp_scope ?_ | refine awp_cond_t rfl ?_ | refine awp_cond_f rfl ?_)
      refine awp_draw (.q 0 (.q 1 (.q 2 (.q 3 (.q 4 (.q 5 (.q 6 (.q 7 (.q 8 (.a 9 (.q 10 (.q 11 (.q 12 (.done)))))))))))))) (by kernel_rfl) (by kernel_rfl) (tree_start (goesT_eq (by simp -implicitDefEqProofs (disch := (first | omega | (simp; done) | fail)) [if_pos, if_neg, wrap_i64, tmod_pos, tdiv_pos, Int.toNat_add]; rfl) ?_))
      refine goesT_callS (callable_of Try.func24) (by simp -implicitDefEqProofs (disch := (first | omega | (simp; done) | fail)) [if_pos, if_neg, wrap_i64, tmod_pos, tdiv_pos, Int.toNat_add] <;> first | rfl | omega) _ (F.rput_ok (flat m.t) hml _) ?_
      rintro _ _ ⟨rfl, rfl⟩
      refine goesT_eq (by simp -implicitDefEqProofs (disch := (first | omega | (simp; done) | fail)) [if_pos, if_neg, wrap_i64, tmod_pos, tdiv_pos, Int.toNat_add]; rfl) ?_
      refine goesT_done ?_
      (try simp only [vq, if_true, reduceIte, Nat.reduceEqDiff, reduceCtorEq])
      repeat (first | ((first | refine goes_done ?_ | refine awp_exit ?_ | refine awp_skip ?_ | refine awp_label ?_ | refine awp_ret ?_); (try simp only [vq, if_true, reduceIte, Nat.reduceEqDiff, reduceCtorEq])) | refine awp_seq ?_ | refine awp_region' (run_start (goes_eq (by simp -implicitDefEqProofs (disch := (first | omega | (simp; done) | fail)) [if_pos, if_neg, wrap_i64, tmod_pos, tdiv_pos, Int.toNat_add]; rfl) ?_)) | refine awp_block ?_ | refine awp_scope ?_ | refine awp_cond_t rfl ?_ | refine awp_cond_f rfl ?_)
      first | refine body_pure (.inr rfl) (by simp -implicitDefEqProofs; rfl) (by simp -implicitDefEqProofs; rfl) (by simp) ?_ | refine body_pure (.inl rfl) (by simp -implicitDefEqProofs; rfl) (by simp -implicitDefEqProofs; rfl) (by simp) ?_
      simp
theorem walk_CodeRecords (x0 : Came) {w : World} (f0 : RecAt w x0.v) (a1 : ByteArray) (w1 : a1.size ≤ maxLen) (x2 : Came) (f2 : MsgAt w x2.v) :
    Calls Try.prog 7 #[x0.v, .string a1, x2.v] w fun e w' => e = .returned (.bool true) ∧ Below w.heap.size w w' := by
  obtain ⟨r, hr, h0⟩ := f0
  obtain ⟨m, hm, h1⟩ := f2
  exact Law.calls (records r a1.data.toList m hm hr []) w (vals_of (cells_cons h0 (cells_cons (rel_str _ _) (cells_cons h1 (cells_nil _)))))
end Go.Proofs.Ytdoaglcnncapdaa.D
