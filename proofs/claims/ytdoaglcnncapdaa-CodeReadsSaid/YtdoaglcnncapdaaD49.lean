import Derived.Test.YtdoaglcnncapdaaDI
/- Bytes as messages: the law CodeReads. -/
set_option linter.unusedVariables false
set_option linter.unusedSimpArgs false
set_option maxRecDepth 20000
namespace Go.Proofs.Ytdoaglcnncapdaa.D
open Go Go.Proofs.Ytdoaglcnncapdaa.V Go.Proofs.Ytdoaglcnncapdaa.N Go.RowKit
theorem rec_whole (s : List UInt8) (h : (whole rdRec Rec.zero s).2 = 0) : (whole rdRec Rec.zero s).1.bad = false ∧ bads (whole rdRec Rec.zero s).1.t = false ∧ s = flat (whole rdRec Rec.zero s).1.t := by
  unfold whole at *
  cases hl : rdRec s with
  | error e => rw [hl] at h; simp only at h; subst h; exact absurd hl (rec_nz s)
  | ok p =>
    rw [hl] at h
    simp only at h ⊢
    by_cases hp : p.2 = []
    · simp only [hp, if_true]
      have := rec_read (x := p.1) (r := p.2) hl
      rw [hp] at this
      simpa using this
    · simp [hp] at h
theorem rec_small {x : Rec} (h1 : x.bad = false) (h2 : bads x.t = false) : wts x.id.t + wts x.inst.t + wts x.snap.t ≤ (flat x.t).length + 100 := by
  have hw := wts_flat _ h2
  cases x with
  | mk sl id inst snap =>
    cases sl with
    | true =>
      simp [Rec.bad] at h1
      obtain ⟨e1, e2⟩ := h1
      rw [iid_z] at e1; rw [inst_z] at e2
      subst e1; subst e2
      have z1 : wts Iid.zero.t = 3 := rfl
      have z2 : wts Inst.zero.t ≤ 90 := by decide
      simp only [Rec.t, if_true, wts_cons, Tk.wt] at hw ⊢
      omega
    | false =>
      simp [Rec.bad] at h1
      rw [snap_z] at h1
      subst h1
      have z2 : wts Snap.zero.t ≤ 90 := by decide
      simp only [Rec.t, Bool.false_eq_true, if_false, wts_cons, wts_app, Tk.wt] at hw ⊢
      omega
theorem msg_read (s : List UInt8) (hs : s.length ≤ 3000) : (whole rdMsg Msg.zero s).1.Ok := by
  have hw := whole_of both_msg .zero s
  have hnz := good_msg.nz s
  have h2 := (whole_end rdMsg Msg.zero s good_msg.nz).2.1
  generalize whole rdMsg .zero s = w at *
  refine (msg_fine ?_).1
  by_cases hz : w.2 = 0
  · obtain ⟨hb, e⟩ := hw hz hnz
    have hwt := wts_flat _ hb
    rw [← e] at hwt
    omega
  · rw [h2 hz]
    have : wts Msg.zero.t ≤ 1000 := by decide
    omega
theorem rec_read2 (s : List UInt8) (hs : s.length ≤ 3000) : (whole rdRec Rec.zero s).1.Ok := by
  have hw := rec_whole s
  have h2 := (whole_end rdRec Rec.zero s rec_nz).2.1
  generalize whole rdRec .zero s = w at *
  refine (rec_fine ?_).1
  by_cases hz : w.2 = 0
  · obtain ⟨hb, hb2, e⟩ := hw hz
    have hwt := rec_small hb hb2
    rw [← e] at hwt
    omega
  · rw [h2 hz]
    have : wts Rec.zero.id.t + wts Rec.zero.inst.t + wts Rec.zero.snap.t ≤ 1000 := by decide
    omega
theorem sV_or' (l : List UInt8) (a b : Bool) : (if a then sV [] true else sV l b) = sV l (a || b) := by cases a <;> cases b <;> rfl
theorem reads (s : List UInt8) (h : AHeap) : ACalls Try.prog 4 [.str s] h fun x h' => x = .bool true ∧ h' = h := by
  refine acalls_of_awp Try.func4 rfl (by simp only [List.length_cons, List.length_nil]; decide) ?_
  simp only [params_cons, params_nil]
  repeat (first | ((first | refine zd ?_ | refine zx ?_ | refine zk ?_ | refine zl ?_ | refine zr ?_); refine zq ?_) | refine zs ?_ | refine zg ?_ | refine zb ?_ | refine zo ?_ | refine zt ?_ | refine zf ?_)
  refine zp (callable_of Try.func10) _ (works_ok _) ?_
  rintro _ h2 ⟨rfl, e⟩
  rw [e]
  clear e h2
  refine ze ?_
  by_cases h1 : (3000 : Int) < (s.length : Int)
  · repeat (first | ((first | refine zd ?_ | refine zx ?_ | refine zk ?_ | refine zl ?_ | refine zr ?_); refine zq ?_) | refine zs ?_ | refine zh (by simp -implicitDefEqProofs (disch := (first | omega | (simp; done) | fail)) [if_pos, if_neg, wrap_i64, tmod_pos, tdiv_pos, Int.toNat_add, h1]; rfl) ?_ | refine zb ?_ | refine zo ?_ | refine zt ?_ | refine zf ?_)
    first | refine zY (.inr rfl) ?_ | refine zY (.inl rfl) ?_
    simp
  have hs : s.length ≤ 3000 := by omega
  have hmo := msg_read s hs
  have hro := rec_read2 s hs
  repeat (first | ((first | refine zd ?_ | refine zx ?_ | refine zk ?_ | refine zl ?_ | refine zr ?_); refine zq ?_) | refine zs ?_ | refine zh (by simp -implicitDefEqProofs (disch := (first | omega | (simp; done) | fail)) [if_pos, if_neg, wrap_i64, tmod_pos, tdiv_pos, Int.toNat_add, h1]; rfl) ?_ | refine zb ?_ | refine zo ?_ | refine zt ?_ | refine zf ?_)
  refine zp (callable_of Try.func17) _ (ofMsg_ok s .no (by omega) _) ?_
  rintro _ h2 ⟨rfl, e⟩
  rw [e]
  clear e h2
  have hio := fun h => iofmsg_ok s (by omega) h
  have hge := fun h => get_ok s .no (by omega) h
  have hig := fun h => iget_ok s (by omega) h
  generalize whole rdMsg .zero s = m at *
  generalize whole rdRec .zero s = r at *
  have hml := Msg.c_len m.1
  have hmo2 : ones m.1.c = true := by simp [Msg.c]
  have hms := msg_strip m.1
  have q1 : m.1.c.take 27 = m.1.c := rfl
  have hrl := Rec.c_len r.1
  have hro2 : ones r.1.c = true := by simp [Rec.c]
  have hrs := rec_strip r.1
  have q2 : r.1.c.take 23 = r.1.c := rfl
  have hpt := fun h => rput_ok r.1 hro h
  have htx := fun h => rtext_ok m.1 hmo h
  generalize (if bads m.1.t then [110, 111, 110, 101] else 61 :: flat m.1.t : List UInt8) = tx at *
  simp only [sV_or'] at hpt
  unfold sV at hpt
  refine goes_eq (by simp -implicitDefEqProofs (disch := (first | omega | (simp; done) | fail)) [if_pos, if_neg, wrap_i64, tmod_pos, tdiv_pos, Int.toNat_add, hml, hmo2]; rfl) ?_
  refine goes_done ?_
  simp only [vq, if_true, reduceIte, Nat.reduceEqDiff, reduceCtorEq]
  refine awp_hard (id := h.length) (by simp -implicitDefEqProofs; rfl) ?_
  simp -implicitDefEqProofs only [Slots.melt, AV.melt, Nat.add_left_cancel_iff, Nat.add_eq_left, Nat.left_eq_add, Nat.reduceEqDiff, reduceIte, Nat.succ_ne_self, Nat.one_ne_zero, Nat.zero_ne_one, List.set_append_right, List.set_append_left, Nat.sub_self, Nat.le_refl, Nat.add_sub_cancel_left, Nat.le_add_right, List.set_cons_zero, List.set_cons_succ]
  repeat (first | ((first | refine zd ?_ | refine zx ?_ | refine zk ?_ | refine zl ?_ | refine zr ?_); refine zq ?_) | refine zs ?_ | refine zg ?_ | refine zb ?_ | refine zo ?_ | refine zt ?_ | refine zf ?_)
  refine zp (callable_of Try.func18) _ (hio _) ?_
  rintro _ _ ⟨rfl, rfl⟩
  refine goes_eq (by simp -implicitDefEqProofs (disch := (first | omega | (simp; done) | fail)) [if_pos, if_neg, wrap_i64, tmod_pos, tdiv_pos, Int.toNat_add, hml, hmo2]; rfl) ?_
  refine goes_done ?_
  simp only [vq, if_true, reduceIte, Nat.reduceEqDiff, reduceCtorEq]
  refine awp_hard (id := h.length + 1) (by simp -implicitDefEqProofs; rfl) ?_
  simp -implicitDefEqProofs only [Slots.melt, AV.melt, Nat.add_left_cancel_iff, Nat.add_eq_left, Nat.left_eq_add, Nat.reduceEqDiff, reduceIte, Nat.succ_ne_self, Nat.one_ne_zero, Nat.zero_ne_one, List.set_append_right, List.set_append_left, Nat.sub_self, Nat.le_refl, Nat.add_sub_cancel_left, Nat.le_add_right, List.set_cons_zero, List.set_cons_succ]
  repeat (first | ((first | refine zd ?_ | refine zx ?_ | refine zk ?_ | refine zl ?_ | refine zr ?_); refine zq ?_) | refine zs ?_ | refine zg ?_ | refine zb ?_ | refine zo ?_ | refine zt ?_ | refine zf ?_)
  refine zp (callable_of Try.func19) _ (hge _) ?_
  rintro _ _ ⟨rfl, rfl⟩
  refine goes_eq (by simp -implicitDefEqProofs (disch := (first | omega | (simp; done) | fail)) [if_pos, if_neg, wrap_i64, tmod_pos, tdiv_pos, Int.toNat_add, hrl, hro2]; rfl) ?_
  refine goes_done ?_
  simp only [vq, if_true, reduceIte, Nat.reduceEqDiff, reduceCtorEq]
  refine awp_hard (id := h.length + 2) (by simp -implicitDefEqProofs; rfl) ?_
  simp -implicitDefEqProofs only [Slots.melt, AV.melt, Nat.add_left_cancel_iff, Nat.add_eq_left, Nat.left_eq_add, Nat.reduceEqDiff, reduceIte, Nat.succ_ne_self, Nat.one_ne_zero, Nat.zero_ne_one, List.set_append_right, List.set_append_left, Nat.sub_self, Nat.le_refl, Nat.add_sub_cancel_left, Nat.le_add_right, List.set_cons_zero, List.set_cons_succ]
  repeat (first | ((first | refine zd ?_ | refine zx ?_ | refine zk ?_ | refine zl ?_ | refine zr ?_); refine zq ?_) | refine zs ?_ | refine zg ?_ | refine zb ?_ | refine zo ?_ | refine zt ?_ | refine zf ?_)
  refine zp (callable_of Try.func20) _ (hig _) ?_
  rintro _ _ ⟨rfl, rfl⟩
  refine goes_eq (by simp -implicitDefEqProofs (disch := (first | omega | (simp; done) | fail)) [if_pos, if_neg, wrap_i64, tmod_pos, tdiv_pos, Int.toNat_add, hrl, hro2]; rfl) ?_
  refine goes_done ?_
  simp only [vq, if_true, reduceIte, Nat.reduceEqDiff, reduceCtorEq]
  refine awp_hard (id := h.length + 3) (by simp -implicitDefEqProofs; rfl) ?_
  simp -implicitDefEqProofs only [Slots.melt, AV.melt, Nat.add_left_cancel_iff, Nat.add_eq_left, Nat.left_eq_add, Nat.reduceEqDiff, reduceIte, Nat.succ_ne_self, Nat.one_ne_zero, Nat.zero_ne_one, List.set_append_right, List.set_append_left, Nat.sub_self, Nat.le_refl, Nat.add_sub_cancel_left, Nat.le_add_right, List.set_cons_zero, List.set_cons_succ]
  repeat (first | ((first | refine zd ?_ | refine zx ?_ | refine zk ?_ | refine zl ?_ | refine zr ?_); refine zq ?_) | refine zs ?_ | refine zh (by simp -implicitDefEqProofs (disch := (first | omega | (simp; done) | fail)) [if_pos, if_neg, wrap_i64, tmod_pos, tdiv_pos, Int.toNat_add, hrl, q2]; rfl) ?_ | refine zb ?_ | refine zo ?_ | refine zt ?_ | refine zf ?_)
  refine goes_callS (callable_of Try.func16) (by simp -implicitDefEqProofs (disch := (first | omega | (simp; done) | fail)) [if_pos, if_neg, wrap_i64, tmod_pos, tdiv_pos, Int.toNat_add, hrs] <;> first | rfl | omega) _ (of_ok r.1 _) ?_
  rintro _ _ ⟨rfl, rfl⟩
  refine ze ?_
  refine goes_callS (callable_of Try.func15) (by simp -implicitDefEqProofs (disch := (first | omega | (simp; done) | fail)) [if_pos, if_neg, wrap_i64, tmod_pos, tdiv_pos, Int.toNat_add, hrs] <;> first | rfl | omega) _ (hpt _) ?_
  rintro _ _ ⟨rfl, rfl⟩
  refine ze ?_
  repeat (first | ((first | refine zd ?_ | refine zx ?_ | refine zk ?_ | refine zl ?_ | refine zr ?_); refine zq ?_) | refine zs ?_ | refine zh (by simp -implicitDefEqProofs (disch := (first | omega | (simp; done) | fail)) [if_pos, if_neg, wrap_i64, tmod_pos, tdiv_pos, Int.toNat_add, hrl, q2]; rfl) ?_ | refine zb ?_ | refine zo ?_ | refine zt ?_ | refine zf ?_)
  refine goes_callS (callable_of Try.func15) (by simp -implicitDefEqProofs (disch := (first | omega | (simp; done) | fail)) [if_pos, if_neg, wrap_i64, tmod_pos, tdiv_pos, Int.toNat_add, hrs] <;> first | rfl | omega) _ (hpt _) ?_
  rintro _ _ ⟨rfl, rfl⟩
  refine ze ?_
  repeat (first | ((first | refine zd ?_ | refine zx ?_ | refine zk ?_ | refine zl ?_ | refine zr ?_); refine zq ?_) | refine zs ?_ | refine zg ?_ | refine zb ?_ | refine zo ?_ | refine zt ?_ | refine zf ?_)
  refine awp_draw (.q 0 (.q 1 (.q 2 (.q 3 (.q 4 (.q 5 (.q 6 (.q 7 (.q 9 (.a 8 (.a 10 (.q 11 (.q 12 (.q 13 (.q 14 (.q 15 (.q 16 (.q 17 (.q 18 (.q 19 (.q 20 (.q 21 (.q 22 (.q 23 (.q 24 (.q 25 (.q 26 (.q 27 (.q 28 (.done)))))))))))))))))))))))))))))) (by kernel_rfl) (by kernel_rfl) (tree_start (goesT_eq (by simp -implicitDefEqProofs (disch := (first | omega | (simp; done) | fail)) [if_pos, if_neg, wrap_i64, tmod_pos, tdiv_pos, Int.toNat_add, hml, q1]; rfl) ?_))
  refine goesT_callS (callable_of Try.func21) (by simp -implicitDefEqProofs (disch := (first | omega | (simp; done) | fail)) [if_pos, if_neg, wrap_i64, tmod_pos, tdiv_pos, Int.toNat_add, hms] <;> first | rfl | omega) _ (htx _) ?_
  rintro _ _ ⟨rfl, rfl⟩
  refine goesT_eq (by simp -implicitDefEqProofs (disch := (first | omega | (simp; done) | fail)) [if_pos, if_neg, wrap_i64, tmod_pos, tdiv_pos, Int.toNat_add, hml, q1]; rfl) ?_
  refine goesT_callS (callable_of Try.func21) (by simp -implicitDefEqProofs (disch := (first | omega | (simp; done) | fail)) [if_pos, if_neg, wrap_i64, tmod_pos, tdiv_pos, Int.toNat_add, hms] <;> first | rfl | omega) _ (htx _) ?_
  rintro _ _ ⟨rfl, rfl⟩
  refine goesT_eq (by simp -implicitDefEqProofs (disch := (first | omega | (simp; done) | fail)) [if_pos, if_neg, wrap_i64, tmod_pos, tdiv_pos, Int.toNat_add, hml, q1]; rfl) ?_
  refine goesT_done ?_
  (try simp only [vq, if_true, reduceIte, Nat.reduceEqDiff, reduceCtorEq])
  repeat (first | ((first | refine zd ?_ | refine zx ?_ | refine zk ?_ | refine zl ?_ | refine zr ?_); refine zq ?_) | refine zs ?_ | refine zg ?_ | refine zb ?_ | refine zo ?_ | refine zt ?_ | refine zf ?_)
  first | refine zy (.inr rfl) ?_ | refine zy (.inl rfl) ?_
  simp
theorem walk_CodeReads (a0 : ByteArray) (w0 : a0.size ≤ maxLen) (w : World) :
    Calls Try.prog 4 #[.string a0] w fun e w' => e = .returned (.bool true) ∧ Below w.heap.size w w' :=
  Law.calls (reads a0.data.toList []) w (vals_of (cells_cons (rel_str _ _) (cells_nil _)))
end Go.Proofs.Ytdoaglcnncapdaa.D
