import Derived.Test.YtdncoobpdllpkaaQB
import Derived.Test.YtdncoobpdllpkaaDD
/- The law RecordSame: two snaps are the same just where their records are. -/
set_option linter.unusedVariables false
set_option linter.unusedSimpArgs false
set_option maxRecDepth 20000
namespace Go.Proofs.Ytdncoobpdllpkaa.Q
open Go Go.Proofs.Ytdncoobpdllpkaa.V Go.Proofs.Ytdncoobpdllpkaa.N Go.Proofs.Ytdncoobpdllpkaa.D Go.RowKit Go.WideShapes
def sealR (x : Snap) : Rec := ⟨true, .zero, .zero, x⟩
theorem seal_c (x : Snap) : (sealR x).c = [.bool true, iv 0, iv 0, iv 0, iv 0, iv 0, iv 0, iv 0, iv 0, iv 0, iv 0, iv 0, .str [], .str [], iv 0, iv 0, iv 0, iv 0, .list [] .no, iv x.epoch, .list (x.nodes.map iv) .no, .list (x.paths.map Entry.av) .no, .list (x.sessions.map Sess.av) .no] := rfl
theorem seal_bad (x : Snap) : (sealR x).bad = false := rfl
theorem seal_few {x : Snap} (h : wts x.t ≤ 1050000) : (sealR x).Few := by
  refine ⟨by simp [sealR, Inst.zero], snap_few (show wts x.t ≤ 2000000 by omega), ?_⟩
  have h1 := Lt9.cons (lt9_num 1) (lt9_snap x)
  unfold Lt9 at h1
  simp only [wts_cons, Tk.wt] at h1
  show (flat (.num 1 :: x.t)).length ≤ _
  omega
theorem seal_inj {a b : Snap} (ha : bads (sealR a).t = false) (hb : bads (sealR b).t = false) : flat (sealR a).t = flat (sealR b).t ↔ a = b := by
  constructor
  · intro h
    have h1 := rec_back (seal_bad a) ha .zero
    have h2 := rec_back (seal_bad b) hb .zero
    rw [h, h2] at h1
    injection h1 with h1
    injection h1 with _ _ _ h1
    exact h1.symm
  · rintro rfl; rfl
theorem recordSame (a b : Snap) (ha : wts a.t ≤ 1050000) (hb : wts b.t ≤ 1050000) (h : AHeap) : ACalls Try.prog 4 [.agg a.c, .agg b.c] h fun x h' => x = .bool true ∧ h' = h := by
  have sa := snap_strip a
  have sb := snap_strip b
  refine acalls_of_awp Try.func4 rfl (by simp only [List.length_cons, List.length_nil]; decide) ?_
  simp only [params_cons, params_nil]
  refine awp_seq ?_
  refine zg ?_
  refine goes_done ?_
  (try simp only [vq, if_true, reduceIte, Nat.reduceEqDiff, reduceCtorEq])
  refine awp_hard (id := h.length) (by simp -implicitDefEqProofs; rfl) ?_
  simp -implicitDefEqProofs only [Slots.melt, AV.melt, Nat.add_left_cancel_iff, Nat.add_eq_left, Nat.left_eq_add, Nat.reduceEqDiff, reduceIte, Nat.succ_ne_self, Nat.one_ne_zero, Nat.zero_ne_one, List.set_append_right, List.set_append_left, Nat.sub_self, Nat.le_refl, Nat.add_sub_cancel_left, Nat.le_add_right, List.set_cons_zero, List.set_cons_succ]
  refine awp_hard (id := h.length + 1) (by simp -implicitDefEqProofs; rfl) ?_
  simp -implicitDefEqProofs only [Slots.melt, AV.melt, Nat.add_left_cancel_iff, Nat.add_eq_left, Nat.left_eq_add, Nat.reduceEqDiff, reduceIte, Nat.succ_ne_self, Nat.one_ne_zero, Nat.zero_ne_one, List.set_append_right, List.set_append_left, Nat.sub_self, Nat.le_refl, Nat.add_sub_cancel_left, Nat.le_add_right, List.set_cons_zero, List.set_cons_succ]
  simp only [Snap.c]
  repeat (first | ((first | refine zd ?_ | refine zx ?_ | refine zk ?_ | refine zl ?_ | refine zr ?_); refine zq ?_) | refine zs ?_ | refine zg ?_ | refine zb ?_ | refine zo ?_ | refine zt ?_ | refine zf ?_)
  refine zp (callable_of Try.func5) _ (works_ok _) ?_
  rintro _ _ ⟨rfl, rfl⟩
  refine ze ?_
  repeat (first | ((first | refine zd ?_ | refine zx ?_ | refine zk ?_ | refine zl ?_ | refine zr ?_); refine zq ?_) | refine zs ?_ | refine zh (by simp -implicitDefEqProofs (disch := (first | omega | (simp; done) | fail)) [if_pos, if_neg, wrap_i64, tmod_pos, tdiv_pos, Int.toNat_add, entv_s, sesv_s, iv_s]; rfl) ?_ | refine zb ?_ | refine zo ?_ | refine zt ?_ | refine zf ?_)
  refine goes_callS (callable_of Try.func6) (by simp -implicitDefEqProofs (disch := (first | omega | (simp; done) | fail)) [if_pos, if_neg, wrap_i64, tmod_pos, tdiv_pos, Int.toNat_add, Snap.c, entv_s, sesv_s, iv_s] <;> first | rfl | omega) _ (little_ok a _) ?_
  rintro _ _ ⟨⟨l1, rfl, hl1⟩, rfl⟩
  cases l1 with
  | false =>
    refine ze ?_
    repeat (first | ((first | refine zd ?_ | refine zx ?_ | refine zk ?_ | refine zl ?_ | refine zr ?_); refine zq ?_) | refine zs ?_ | refine zg ?_ | refine zb ?_ | refine zo ?_ | refine zt ?_ | refine zf ?_)
    first | refine zy (.inr rfl) ?_ | refine zy (.inl rfl) ?_
    simp
  | true =>
  have la := hl1 rfl
  clear hl1
  refine ze ?_
  repeat (first | ((first | refine zd ?_ | refine zx ?_ | refine zk ?_ | refine zl ?_ | refine zr ?_); refine zq ?_) | refine zs ?_ | refine zh (by simp -implicitDefEqProofs (disch := (first | omega | (simp; done) | fail)) [if_pos, if_neg, wrap_i64, tmod_pos, tdiv_pos, Int.toNat_add, entv_s, sesv_s, iv_s]; rfl) ?_ | refine zb ?_ | refine zo ?_ | refine zt ?_ | refine zf ?_)
  refine goes_callS (callable_of Try.func6) (by simp -implicitDefEqProofs (disch := (first | omega | (simp; done) | fail)) [if_pos, if_neg, wrap_i64, tmod_pos, tdiv_pos, Int.toNat_add, Snap.c, entv_s, sesv_s, iv_s] <;> first | rfl | omega) _ (little_ok b _) ?_
  rintro _ _ ⟨⟨l2, rfl, hl2⟩, rfl⟩
  cases l2 with
  | false =>
    refine ze ?_
    repeat (first | ((first | refine zd ?_ | refine zx ?_ | refine zk ?_ | refine zl ?_ | refine zr ?_); refine zq ?_) | refine zs ?_ | refine zg ?_ | refine zb ?_ | refine zo ?_ | refine zt ?_ | refine zf ?_)
    first | refine zy (.inr rfl) ?_ | refine zy (.inl rfl) ?_
    simp
  | true =>
  have lb := hl2 rfl
  clear hl2
  refine ze ?_
  repeat (first | ((first | refine zd ?_ | refine zx ?_ | refine zk ?_ | refine zl ?_ | refine zr ?_); refine zq ?_) | refine zs ?_ | refine zh (by simp -implicitDefEqProofs (disch := (first | omega | (simp; done) | fail)) [if_pos, if_neg, wrap_i64, tmod_pos, tdiv_pos, Int.toNat_add, entv_s, sesv_s, iv_s]; rfl) ?_ | refine zb ?_ | refine zo ?_ | refine zt ?_ | refine zf ?_)
  refine goes_callS (callable_of Try.func12) (by simp -implicitDefEqProofs (disch := (first | omega | (simp; done) | fail)) [if_pos, if_neg, wrap_i64, tmod_pos, tdiv_pos, Int.toNat_add, seal_c, entv_s, sesv_s, iv_s] <;> first | rfl | omega) _ (put_ok (sealR a) (seal_few ha) _) ?_
  rintro _ _ ⟨rfl, rfl⟩
  rw [seal_bad a]
  have inj := fun p q => seal_inj (a := a) (b := b) p q
  have fa := seal_few ha
  have fb := seal_few hb
  generalize hA : bads (sealR a).t = bA at *
  generalize hB : bads (sealR b).t = bB at *
  refine goes_eq (by simp -implicitDefEqProofs (disch := (first | omega | (simp; done) | fail)) [if_pos, if_neg, wrap_i64, tmod_pos, tdiv_pos, Int.toNat_add, outV, outB, outE]; rfl) ?_
  repeat (first | ((first | refine zd ?_ | refine zx ?_ | refine zk ?_ | refine zl ?_ | refine zr ?_); refine zq ?_) | refine zs ?_ | refine zh (by simp -implicitDefEqProofs (disch := (first | omega | (simp; done) | fail)) [if_pos, if_neg, wrap_i64, tmod_pos, tdiv_pos, Int.toNat_add, entv_s, sesv_s, iv_s]; rfl) ?_ | refine zb ?_ | refine zo ?_ | refine zt ?_ | refine zf ?_)
  refine goes_callS (callable_of Try.func12) (by simp -implicitDefEqProofs (disch := (first | omega | (simp; done) | fail)) [if_pos, if_neg, wrap_i64, tmod_pos, tdiv_pos, Int.toNat_add, seal_c, entv_s, sesv_s, iv_s] <;> first | rfl | omega) _ (put_ok (sealR b) fb _) ?_
  rintro _ _ ⟨rfl, rfl⟩
  rw [seal_bad b, hB]
  cases bA with
  | true =>
    refine goes_eq (by simp -implicitDefEqProofs (disch := (first | omega | (simp; done) | fail)) [if_pos, if_neg, wrap_i64, tmod_pos, tdiv_pos, Int.toNat_add, outV, outB, outE]; rfl) ?_
    repeat (first | ((first | refine zd ?_ | refine zx ?_ | refine zk ?_ | refine zl ?_ | refine zr ?_); refine zq ?_) | refine zs ?_ | refine zg ?_ | refine zb ?_ | refine zo ?_ | refine zt ?_ | refine zf ?_)
    first | refine zy (.inr rfl) ?_ | refine zy (.inl rfl) ?_
    simp
  | false =>
  cases bB with
  | true =>
    refine goes_eq (by simp -implicitDefEqProofs (disch := (first | omega | (simp; done) | fail)) [if_pos, if_neg, wrap_i64, tmod_pos, tdiv_pos, Int.toNat_add, outV, outB, outE]; rfl) ?_
    repeat (first | ((first | refine zd ?_ | refine zx ?_ | refine zk ?_ | refine zl ?_ | refine zr ?_); refine zq ?_) | refine zs ?_ | refine zg ?_ | refine zb ?_ | refine zo ?_ | refine zt ?_ | refine zf ?_)
    first | refine zy (.inr rfl) ?_ | refine zy (.inl rfl) ?_
    simp
  | false =>
  refine goes_eq (by simp -implicitDefEqProofs (disch := (first | omega | (simp; done) | fail)) [if_pos, if_neg, wrap_i64, tmod_pos, tdiv_pos, Int.toNat_add, outV, outB, outE]; rfl) ?_
  repeat (first | ((first | refine zd ?_ | refine zx ?_ | refine zk ?_ | refine zl ?_ | refine zr ?_); refine zq ?_) | refine zs ?_ | refine zh (by simp -implicitDefEqProofs (disch := (first | omega | (simp; done) | fail)) [if_pos, if_neg, wrap_i64, tmod_pos, tdiv_pos, Int.toNat_add, entv_s, sesv_s, iv_s]; rfl) ?_ | refine zb ?_ | refine zo ?_ | refine zt ?_ | refine zf ?_)
  have i1 := inj rfl rfl
  clear inj
  generalize flat (sealR a).t = fla at *
  generalize flat (sealR b).t = flb at *
  by_cases hab : a = b
  · subst hab
    obtain rfl := i1.2 rfl
    refine awp_draw (.q 0 (.q 1 (.q 2 (.q 3 (.q 5 (.q 6 (.q 7 (.q 8 (.q 9 (.a 4 (.q 10 (.q 11 (.q 12 (.q 13 (.q 14 (.q 16 (.q 17 (.a 15 (.a 18 (.q 19 (.q 20 (.q 21 (.q 22 (.q 23 (.a 24 (.q 25 (.q 26 (.done)))))))))))))))))))))))))))) (by kernel_rfl) (by kernel_rfl) (tree_start (goesT_eq (by simp -implicitDefEqProofs (disch := (first | omega | (simp; done) | fail)) [if_pos, if_neg, wrap_i64, tmod_pos, tdiv_pos, Int.toNat_add]; rfl) ?_))
    refine goesT_callS (callable_of Try.func10) (by simp -implicitDefEqProofs (disch := (first | omega | (simp; done) | fail)) [if_pos, if_neg, wrap_i64, tmod_pos, tdiv_pos, Int.toNat_add, Snap.c, entv_s, sesv_s, iv_s] <;> first | rfl | omega) _ (same_ok a a la la _) ?_
    rintro _ _ ⟨rfl, rfl⟩
    refine zE ?_
    refine goesT_callS (callable_of Try.func10) (by simp -implicitDefEqProofs (disch := (first | omega | (simp; done) | fail)) [if_pos, if_neg, wrap_i64, tmod_pos, tdiv_pos, Int.toNat_add, Snap.c, entv_s, sesv_s, iv_s] <;> first | rfl | omega) _ (same_ok a a la la _) ?_
    rintro _ _ ⟨rfl, rfl⟩
    refine zE ?_
    refine goesT_callS (callable_of Try.func10) (by simp -implicitDefEqProofs (disch := (first | omega | (simp; done) | fail)) [if_pos, if_neg, wrap_i64, tmod_pos, tdiv_pos, Int.toNat_add, Snap.c, entv_s, sesv_s, iv_s] <;> first | rfl | omega) _ (same_ok a a la la _) ?_
    rintro _ _ ⟨rfl, rfl⟩
    refine zE ?_
    refine goesT_callS (callable_of Try.func10) (by simp -implicitDefEqProofs (disch := (first | omega | (simp; done) | fail)) [if_pos, if_neg, wrap_i64, tmod_pos, tdiv_pos, Int.toNat_add, Snap.c, entv_s, sesv_s, iv_s] <;> first | rfl | omega) _ (same_ok a a la la _) ?_
    rintro _ _ ⟨rfl, rfl⟩
    refine zE ?_
    refine goesT_done ?_
    (try simp only [vq, if_true, reduceIte, Nat.reduceEqDiff, reduceCtorEq])
    repeat (first | ((first | refine zd ?_ | refine zx ?_ | refine zk ?_ | refine zl ?_ | refine zr ?_); refine zq ?_) | refine zs ?_ | refine zg ?_ | refine zb ?_ | refine zo ?_ | refine zt ?_ | refine zf ?_)
    first | refine zy (.inr rfl) ?_ | refine zy (.inl rfl) ?_
    simp
  · have h1 : ¬ fla = flb := fun e => hab (i1.1 e)
    have h2 : ¬ b = a := fun e => hab e.symm
    have e1 : (fla == flb) = false := by simpa using h1
    have e2 : decide (a = b) = false := by simpa using hab
    have e3 : decide (b = a) = false := by simpa using h2
    refine awp_draw (.q 0 (.q 1 (.q 2 (.q 3 (.q 5 (.q 6 (.q 7 (.q 8 (.q 9 (.a 4 (.q 10 (.q 11 (.q 12 (.q 13 (.q 14 (.q 16 (.q 17 (.a 15 (.a 18 (.q 19 (.q 20 (.q 21 (.q 22 (.q 23 (.a 24 (.q 25 (.q 26 (.done)))))))))))))))))))))))))))) (by kernel_rfl) (by kernel_rfl) (tree_start (goesT_eq (by simp -implicitDefEqProofs (disch := (first | omega | (simp; done) | fail)) [if_pos, if_neg, wrap_i64, tmod_pos, tdiv_pos, Int.toNat_add, e1]; rfl) ?_))
    refine goesT_callS (callable_of Try.func10) (by simp -implicitDefEqProofs (disch := (first | omega | (simp; done) | fail)) [if_pos, if_neg, wrap_i64, tmod_pos, tdiv_pos, Int.toNat_add, Snap.c, entv_s, sesv_s, iv_s] <;> first | rfl | omega) _ (same_ok a b la lb _) ?_
    rintro _ _ ⟨rfl, rfl⟩
    refine goesT_eq (by simp -implicitDefEqProofs (disch := (first | omega | (simp; done) | fail)) [if_pos, if_neg, wrap_i64, tmod_pos, tdiv_pos, Int.toNat_add, e1, e2, e3]; rfl) ?_
    refine goesT_callS (callable_of Try.func10) (by simp -implicitDefEqProofs (disch := (first | omega | (simp; done) | fail)) [if_pos, if_neg, wrap_i64, tmod_pos, tdiv_pos, Int.toNat_add, Snap.c, entv_s, sesv_s, iv_s] <;> first | rfl | omega) _ (same_ok a b la lb _) ?_
    rintro _ _ ⟨rfl, rfl⟩
    refine goesT_eq (by simp -implicitDefEqProofs (disch := (first | omega | (simp; done) | fail)) [if_pos, if_neg, wrap_i64, tmod_pos, tdiv_pos, Int.toNat_add, e1, e2, e3]; rfl) ?_
    refine goesT_callS (callable_of Try.func10) (by simp -implicitDefEqProofs (disch := (first | omega | (simp; done) | fail)) [if_pos, if_neg, wrap_i64, tmod_pos, tdiv_pos, Int.toNat_add, Snap.c, entv_s, sesv_s, iv_s] <;> first | rfl | omega) _ (same_ok b a lb la _) ?_
    rintro _ _ ⟨rfl, rfl⟩
    refine goesT_eq (by simp -implicitDefEqProofs (disch := (first | omega | (simp; done) | fail)) [if_pos, if_neg, wrap_i64, tmod_pos, tdiv_pos, Int.toNat_add, e1, e2, e3]; rfl) ?_
    refine goesT_callS (callable_of Try.func10) (by simp -implicitDefEqProofs (disch := (first | omega | (simp; done) | fail)) [if_pos, if_neg, wrap_i64, tmod_pos, tdiv_pos, Int.toNat_add, Snap.c, entv_s, sesv_s, iv_s] <;> first | rfl | omega) _ (same_ok a a la la _) ?_
    rintro _ _ ⟨rfl, rfl⟩
    refine goesT_eq (by simp -implicitDefEqProofs (disch := (first | omega | (simp; done) | fail)) [if_pos, if_neg, wrap_i64, tmod_pos, tdiv_pos, Int.toNat_add, e1, e2, e3]; rfl) ?_
    refine goesT_done ?_
    (try simp only [vq, if_true, reduceIte, Nat.reduceEqDiff, reduceCtorEq])
    repeat (first | ((first | refine zd ?_ | refine zx ?_ | refine zk ?_ | refine zl ?_ | refine zr ?_); refine zq ?_) | refine zs ?_ | refine zg ?_ | refine zb ?_ | refine zo ?_ | refine zt ?_ | refine zf ?_)
    first | refine zy (.inr rfl) ?_ | refine zy (.inl rfl) ?_
    simp
def SnapAt (w : World) (v : Value) : Prop := ∃ x : Snap, wts x.t ≤ 1050000 ∧ VRel (g0 w) (.agg x.c) v
theorem bopen_st {P : Program} {t : TypeId} {α : Type} {fs : Array Field} {f : α → List AV} {G : α → Prop} {m : α → Nat} (ht : P.underlying t = some (.struct fs)) (ho : BOpens P t f G m) {H : Type} {enc : TypeId × Value → H} {w : World} {v : Value} {d : DataW H} {p : List MemPlace} {r : Reach} {b0 : Nat}
    (hv : Value.okWide P w r b0 t v) (h : DataW.Trod enc P w 0 (fun _ => true) true t v d p) (hnf : w.noneFrozen p) : ∃ a, G a ∧ m a ≤ Rows.uptoBulk d ∧ VRel (g0 w) (.agg (f a)) v := by
  obtain ⟨fuel, h⟩ := h
  obtain ⟨cs, rfl, _⟩ := okWide_struct ht hv
  obtain ⟨a, hg, hm, hr⟩ := ho H enc w fuel _ _ h hnf
  exact ⟨a, hg, hm, .agg _ _ (by simpa [Value.cells] using hr.1) fun i h1 h2 => by simpa [Value.cells] using hr.2 i h1 (by simpa [Value.cells] using h2)⟩
theorem open_api_Snap {H : Type} {enc : TypeId × Value → H} {w : World} {v : Value} {d : DataW H} {p : List MemPlace} {r : Reach} {b0 : Nat} (hv : Value.okWide Try.prog w r b0 28 v) (h : DataW.Trod enc Try.prog w 0 (fun _ => true) true 28 v d p) (hnf : w.noneFrozen p) (hb : Rows.uptoBulk d ≤ 1048576) : ∃ x : Came, v = x.v ∧ SnapAt w x.v :=
  ⟨⟨v⟩, rfl, by
    obtain ⟨x, _, hm, hr⟩ := bopen_st Try.underlying28 bo_snap hv h hnf
    exact ⟨x, by omega, hr⟩⟩
theorem walk_RecordSame (x0 : Came) {w : World} (f0 : SnapAt w x0.v) (x1 : Came) (f1 : SnapAt w x1.v) :
    Calls Try.prog 4 #[x0.v, x1.v] w fun e w' => e = .returned (.bool true) ∧ Below w.heap.size w w' := by
  obtain ⟨a, ha, h0⟩ := f0
  obtain ⟨b, hb, h1⟩ := f1
  exact Law.calls (recordSame a b ha hb []) w (vals_of (cells_cons h0 (cells_cons h1 (cells_nil _))))
end Go.Proofs.Ytdncoobpdllpkaa.Q
