import Derived.Test.YtdoaglcnncapdaaDA
/- Messages as bytes: what the document writes, things. -/
set_option linter.unusedVariables false
set_option linter.unusedSimpArgs false
set_option maxRecDepth 20000
namespace Go.Proofs.Ytdoaglcnncapdaa.D
open Go Go.Proofs.Ytdoaglcnncapdaa.V Go.Proofs.Ytdoaglcnncapdaa.N
theorem RS.ne {h h' : AHeap} {oid : Nat} {s : List UInt8} {b : Bool} {ts : List Tk} (r : RS h oid s b ts h') : ¬ oid = h'.length := fun e => by
  obtain ⟨s', r1, _⟩ := r
  rw [e] at r1
  simp at r1
theorem awp_cut {P : Program} {E : Env P} {x y : Code} {Q : Post} {st : ASt} (J : ASt → Prop) (h1 : AWP E x (Post.then J Q) st) (h2 : ∀ s, J s → AWP E y Q s) : AWP E (.seq x y) Q st :=
  awp_seq (h1.mono fun e s hq => by
    cases e with
    | normal => exact h2 s hq
    | _ => exact hq)
theorem oid_ok (x : Iid) : RW 30 [.agg x.c] x.t := by
  unfold Iid.t
  rintro h oid s b ho hl
  have rs : RS h oid s b [] h := RS.start ho
  have hne : ¬ oid = h.length := fun e => by rw [e] at ho; simp at ho
  refine acalls_of_awp Try.func30 rfl (by simp only [List.length_cons, List.length_nil]; decide) ?_
  simp only [params_cons, params_nil]
  refine awp_seq ?_
  refine zg ?_
  refine goes_done ?_
  (try simp only [vq, if_true, reduceIte, Nat.reduceEqDiff, reduceCtorEq])
  refine awp_hard (id := h.length) (by simp -implicitDefEqProofs; rfl) ?_
  simp -implicitDefEqProofs only [Slots.melt, AV.melt, Nat.add_left_cancel_iff, Nat.add_eq_left, Nat.left_eq_add, Nat.reduceEqDiff, reduceIte, Nat.succ_ne_self, Nat.one_ne_zero, Nat.zero_ne_one, List.set_append_right, List.set_append_left, Nat.sub_self, Nat.le_refl, Nat.add_sub_cancel_left, Nat.le_add_right, List.set_cons_zero, List.set_cons_succ, hne]
  simp only [Iid.c]
  have rs := rs.app [.dead]
  repeat (first | ((first | refine zd ?_ | refine zx ?_ | refine zk ?_ | refine zl ?_ | refine zr ?_); refine zq ?_) | refine zs ?_ | refine zg ?_ | refine zb ?_ | refine zo ?_ | refine zt ?_ | refine zf ?_)
  obtain ⟨s', ho, hq, hql, k⟩ := rs
  refine goes_callS (callable_of Try.func29) (by simp -implicitDefEqProofs (disch := (first | omega | (simp; done) | fail)) [if_pos, if_neg, wrap_i64, tmod_pos, tdiv_pos, Int.toNat_add, iv] <;> first | rfl | omega) _ (onum_ok x.e _ _ s' _ ho (by simp only [flat_cons, flat_nil, flat_app, List.length_append, List.length_nil, List.nil_append, List.length_cons, List.append_nil] at hl hql ⊢; omega)) ?_
  rintro _ h' ⟨rfl, rs'⟩
  have rs := RS.step ⟨ho, hq, hql, k⟩ rs'
  clear rs' ho hq hql k
  refine ze ?_
  (refine goes_done ?_; (try simp only [vq, if_true, reduceIte, Nat.reduceEqDiff, reduceCtorEq]))
  repeat (first | ((first | refine zd ?_ | refine zx ?_ | refine zk ?_ | refine zl ?_ | refine zr ?_); refine zq ?_) | refine zs ?_ | refine zg ?_ | refine zb ?_ | refine zo ?_ | refine zt ?_ | refine zf ?_)
  obtain ⟨s', ho, hq, hql, k⟩ := rs
  refine goes_callS (callable_of Try.func29) (by simp -implicitDefEqProofs (disch := (first | omega | (simp; done) | fail)) [if_pos, if_neg, wrap_i64, tmod_pos, tdiv_pos, Int.toNat_add, iv] <;> first | rfl | omega) _ (onum_ok x.n _ _ s' _ ho (by simp only [flat_cons, flat_nil, flat_app, List.length_append, List.length_nil, List.nil_append, List.length_cons, List.append_nil] at hl hql ⊢; omega)) ?_
  rintro _ h' ⟨rfl, rs'⟩
  have rs := RS.step ⟨ho, hq, hql, k⟩ rs'
  clear rs' ho hq hql k
  refine ze ?_
  (refine goes_done ?_; (try simp only [vq, if_true, reduceIte, Nat.reduceEqDiff, reduceCtorEq]))
  repeat (first | ((first | refine zd ?_ | refine zx ?_ | refine zk ?_ | refine zl ?_ | refine zr ?_); refine zq ?_) | refine zs ?_ | refine zg ?_ | refine zb ?_ | refine zo ?_ | refine zt ?_ | refine zf ?_)
  obtain ⟨s', ho, hq, hql, k⟩ := rs
  refine goes_callS (callable_of Try.func29) (by simp -implicitDefEqProofs (disch := (first | omega | (simp; done) | fail)) [if_pos, if_neg, wrap_i64, tmod_pos, tdiv_pos, Int.toNat_add, iv] <;> first | rfl | omega) _ (onum_ok x.o _ _ s' _ ho (by simp only [flat_cons, flat_nil, flat_app, List.length_append, List.length_nil, List.nil_append, List.length_cons, List.append_nil] at hl hql ⊢; omega)) ?_
  rintro _ h' ⟨rfl, rs'⟩
  have rs := RS.step ⟨ho, hq, hql, k⟩ rs'
  clear rs' ho hq hql k
  refine ze ?_
  (refine goes_done ?_; (try simp only [vq, if_true, reduceIte, Nat.reduceEqDiff, reduceCtorEq]))
  have hkl := rs.len
  first | refine body_all (.inr rfl) (by simp -implicitDefEqProofs; rfl) (by simp -implicitDefEqProofs; rfl) (by first | (simp; done) | (simp; omega) | omega) ?_ | refine body_all (.inl rfl) (by simp -implicitDefEqProofs; rfl) (by simp -implicitDefEqProofs; rfl) (by first | (simp; done) | (simp; omega) | omega) ?_
  exact ⟨rfl, by simpa [List.append_assoc] using rs⟩
theorem oballot_ok (x : Bal) : RW 31 [.agg x.c] x.t := by
  unfold Bal.t
  rintro h oid s b ho hl
  have rs : RS h oid s b [] h := RS.start ho
  have hne : ¬ oid = h.length := fun e => by rw [e] at ho; simp at ho
  refine acalls_of_awp Try.func31 rfl (by simp only [List.length_cons, List.length_nil]; decide) ?_
  simp only [params_cons, params_nil]
  refine awp_seq ?_
  refine zg ?_
  refine goes_done ?_
  (try simp only [vq, if_true, reduceIte, Nat.reduceEqDiff, reduceCtorEq])
  refine awp_hard (id := h.length) (by simp -implicitDefEqProofs; rfl) ?_
  simp -implicitDefEqProofs only [Slots.melt, AV.melt, Nat.add_left_cancel_iff, Nat.add_eq_left, Nat.left_eq_add, Nat.reduceEqDiff, reduceIte, Nat.succ_ne_self, Nat.one_ne_zero, Nat.zero_ne_one, List.set_append_right, List.set_append_left, Nat.sub_self, Nat.le_refl, Nat.add_sub_cancel_left, Nat.le_add_right, List.set_cons_zero, List.set_cons_succ, hne]
  simp only [Bal.c]
  have rs := rs.app [.dead]
  repeat (first | ((first | refine zd ?_ | refine zx ?_ | refine zk ?_ | refine zl ?_ | refine zr ?_); refine zq ?_) | refine zs ?_ | refine zg ?_ | refine zb ?_ | refine zo ?_ | refine zt ?_ | refine zf ?_)
  obtain ⟨s', ho, hq, hql, k⟩ := rs
  refine goes_callS (callable_of Try.func29) (by simp -implicitDefEqProofs (disch := (first | omega | (simp; done) | fail)) [if_pos, if_neg, wrap_i64, tmod_pos, tdiv_pos, Int.toNat_add, iv] <;> first | rfl | omega) _ (onum_ok x.no _ _ s' _ ho (by simp only [flat_cons, flat_nil, flat_app, List.length_append, List.length_nil, List.nil_append, List.length_cons, List.append_nil] at hl hql ⊢; omega)) ?_
  rintro _ h' ⟨rfl, rs'⟩
  have rs := RS.step ⟨ho, hq, hql, k⟩ rs'
  clear rs' ho hq hql k
  refine ze ?_
  (refine goes_done ?_; (try simp only [vq, if_true, reduceIte, Nat.reduceEqDiff, reduceCtorEq]))
  repeat (first | ((first | refine zd ?_ | refine zx ?_ | refine zk ?_ | refine zl ?_ | refine zr ?_); refine zq ?_) | refine zs ?_ | refine zg ?_ | refine zb ?_ | refine zo ?_ | refine zt ?_ | refine zf ?_)
  obtain ⟨s', ho, hq, hql, k⟩ := rs
  refine goes_callS (callable_of Try.func29) (by simp -implicitDefEqProofs (disch := (first | omega | (simp; done) | fail)) [if_pos, if_neg, wrap_i64, tmod_pos, tdiv_pos, Int.toNat_add, iv] <;> first | rfl | omega) _ (onum_ok x.node _ _ s' _ ho (by simp only [flat_cons, flat_nil, flat_app, List.length_append, List.length_nil, List.nil_append, List.length_cons, List.append_nil] at hl hql ⊢; omega)) ?_
  rintro _ h' ⟨rfl, rs'⟩
  have rs := RS.step ⟨ho, hq, hql, k⟩ rs'
  clear rs' ho hq hql k
  refine ze ?_
  (refine goes_done ?_; (try simp only [vq, if_true, reduceIte, Nat.reduceEqDiff, reduceCtorEq]))
  have hkl := rs.len
  first | refine body_all (.inr rfl) (by simp -implicitDefEqProofs; rfl) (by simp -implicitDefEqProofs; rfl) (by first | (simp; done) | (simp; omega) | omega) ?_ | refine body_all (.inl rfl) (by simp -implicitDefEqProofs; rfl) (by simp -implicitDefEqProofs; rfl) (by first | (simp; done) | (simp; omega) | omega) ?_
  exact ⟨rfl, by simpa [List.append_assoc] using rs⟩
theorem bal_strip (x : Bal) : x.c.map AV.strip = x.c := by simp [Bal.c]
theorem oinst_ok (x : Inst) (hn : x.deps.length ≤ 2000000) (ht : ∀ t, t ∈ [x.cmd.path, x.cmd.value] → t.length ≤ 2000000) : RW 32 [.agg x.c] x.t := by
  have ht1 := ht x.cmd.path (by simp)
  have ht2 := ht x.cmd.value (by simp)
  clear ht
  unfold Inst.t Cmd.t listT
  rintro h oid s b ho hl
  have rs : RS h oid s b [] h := RS.start ho
  have hne : ¬ oid = h.length := fun e => by rw [e] at ho; simp at ho
  refine acalls_of_awp Try.func32 rfl (by simp only [List.length_cons, List.length_nil]; decide) ?_
  simp only [params_cons, params_nil]
  refine awp_seq ?_
  refine zg ?_
  refine goes_done ?_
  (try simp only [vq, if_true, reduceIte, Nat.reduceEqDiff, reduceCtorEq])
  refine awp_hard (id := h.length) (by simp -implicitDefEqProofs; rfl) ?_
  simp -implicitDefEqProofs only [Slots.melt, AV.melt, Nat.add_left_cancel_iff, Nat.add_eq_left, Nat.left_eq_add, Nat.reduceEqDiff, reduceIte, Nat.succ_ne_self, Nat.one_ne_zero, Nat.zero_ne_one, List.set_append_right, List.set_append_left, Nat.sub_self, Nat.le_refl, Nat.add_sub_cancel_left, Nat.le_add_right, List.set_cons_zero, List.set_cons_succ, hne]
  simp only [Inst.c]
  have rs := rs.app [.dead]
  repeat (first | ((first | refine zd ?_ | refine zx ?_ | refine zk ?_ | refine zl ?_ | refine zr ?_); refine zq ?_) | refine zs ?_ | refine zg ?_ | refine zb ?_ | refine zo ?_ | refine zt ?_ | refine zf ?_)
  obtain ⟨s', ho, hq, hql, k⟩ := rs
  refine goes_callS (callable_of Try.func29) (by simp -implicitDefEqProofs (disch := (first | omega | (simp; done) | fail)) [if_pos, if_neg, wrap_i64, tmod_pos, tdiv_pos, Int.toNat_add, iv] <;> first | rfl | omega) _ (onum_ok x.status _ _ s' _ ho (by simp only [flat_cons, flat_nil, flat_app, List.length_append, List.length_nil, List.nil_append, List.length_cons, List.append_nil] at hl hql ⊢; omega)) ?_
  rintro _ h' ⟨rfl, rs'⟩
  have rs := RS.step ⟨ho, hq, hql, k⟩ rs'
  clear rs' ho hq hql k
  refine ze ?_
  (refine goes_done ?_; (try simp only [vq, if_true, reduceIte, Nat.reduceEqDiff, reduceCtorEq]))
  repeat (first | ((first | refine zd ?_ | refine zx ?_ | refine zk ?_ | refine zl ?_ | refine zr ?_); refine zq ?_) | refine zs ?_ | refine zg ?_ | refine zb ?_ | refine zo ?_ | refine zt ?_ | refine zf ?_)
  obtain ⟨s', ho, hq, hql, k⟩ := rs
  refine goes_callS (callable_of Try.func31) (by simp -implicitDefEqProofs (disch := (first | omega | (simp; done) | fail)) [if_pos, if_neg, wrap_i64, tmod_pos, tdiv_pos, Int.toNat_add, iv, Bal.c] <;> first | rfl | omega) _ (oballot_ok x.promise _ _ s' _ ho (by simp only [flat_cons, flat_nil, flat_app, List.length_append, List.length_nil, List.nil_append, List.length_cons, List.append_nil] at hl hql ⊢; omega)) ?_
  rintro _ h' ⟨rfl, rs'⟩
  have rs := RS.step ⟨ho, hq, hql, k⟩ rs'
  clear rs' ho hq hql k
  refine goes_eq (by simp -implicitDefEqProofs (disch := (first | omega | (simp; done) | fail)) [if_pos, if_neg, wrap_i64, tmod_pos, tdiv_pos, Int.toNat_add, Bal.c]; rfl) ?_
  (refine goes_done ?_; (try simp only [vq, if_true, reduceIte, Nat.reduceEqDiff, reduceCtorEq]))
  repeat (first | ((first | refine zd ?_ | refine zx ?_ | refine zk ?_ | refine zl ?_ | refine zr ?_); refine zq ?_) | refine zs ?_ | refine zg ?_ | refine zb ?_ | refine zo ?_ | refine zt ?_ | refine zf ?_)
  obtain ⟨s', ho, hq, hql, k⟩ := rs
  refine goes_callS (callable_of Try.func31) (by simp -implicitDefEqProofs (disch := (first | omega | (simp; done) | fail)) [if_pos, if_neg, wrap_i64, tmod_pos, tdiv_pos, Int.toNat_add, iv, Bal.c] <;> first | rfl | omega) _ (oballot_ok x.voted _ _ s' _ ho (by simp only [flat_cons, flat_nil, flat_app, List.length_append, List.length_nil, List.nil_append, List.length_cons, List.append_nil] at hl hql ⊢; omega)) ?_
  rintro _ h' ⟨rfl, rs'⟩
  have rs := RS.step ⟨ho, hq, hql, k⟩ rs'
  clear rs' ho hq hql k
  refine goes_eq (by simp -implicitDefEqProofs (disch := (first | omega | (simp; done) | fail)) [if_pos, if_neg, wrap_i64, tmod_pos, tdiv_pos, Int.toNat_add, Bal.c]; rfl) ?_
  (refine goes_done ?_; (try simp only [vq, if_true, reduceIte, Nat.reduceEqDiff, reduceCtorEq]))
  have hne := rs.ne
  refine awp_seq ?_
  refine zg ?_
  refine goes_done ?_
  (try simp only [vq, if_true, reduceIte, Nat.reduceEqDiff, reduceCtorEq])
  refine awp_hard (id := h'.length) (by simp -implicitDefEqProofs; rfl) ?_
  simp -implicitDefEqProofs only [Slots.melt, AV.melt, Nat.add_left_cancel_iff, Nat.add_eq_left, Nat.left_eq_add, Nat.reduceEqDiff, reduceIte, Nat.succ_ne_self, Nat.one_ne_zero, Nat.zero_ne_one, List.set_append_right, List.set_append_left, Nat.sub_self, Nat.le_refl, Nat.add_sub_cancel_left, Nat.le_add_right, List.set_cons_zero, List.set_cons_succ, hne]
  have rs := rs.app [.dead]
  repeat (first | ((first | refine zd ?_ | refine zx ?_ | refine zk ?_ | refine zl ?_ | refine zr ?_); refine zq ?_) | refine zs ?_ | refine zg ?_ | refine zb ?_ | refine zo ?_ | refine zt ?_ | refine zf ?_)
  obtain ⟨s', ho, hq, hql, k⟩ := rs
  refine goes_callS (callable_of Try.func29) (by simp -implicitDefEqProofs (disch := (first | omega | (simp; done) | fail)) [if_pos, if_neg, wrap_i64, tmod_pos, tdiv_pos, Int.toNat_add, iv] <;> first | rfl | omega) _ (onum_ok x.cmd.client _ _ s' _ ho (by simp only [flat_cons, flat_nil, flat_app, List.length_append, List.length_nil, List.nil_append, List.length_cons, List.append_nil] at hl hql ⊢; omega)) ?_
  rintro _ h' ⟨rfl, rs'⟩
  have rs := RS.step ⟨ho, hq, hql, k⟩ rs'
  clear rs' ho hq hql k
  refine ze ?_
  (refine goes_done ?_; (try simp only [vq, if_true, reduceIte, Nat.reduceEqDiff, reduceCtorEq]))
  repeat (first | ((first | refine zd ?_ | refine zx ?_ | refine zk ?_ | refine zl ?_ | refine zr ?_); refine zq ?_) | refine zs ?_ | refine zg ?_ | refine zb ?_ | refine zo ?_ | refine zt ?_ | refine zf ?_)
  obtain ⟨s', ho, hq, hql, k⟩ := rs
  refine goes_callS (callable_of Try.func29) (by simp -implicitDefEqProofs (disch := (first | omega | (simp; done) | fail)) [if_pos, if_neg, wrap_i64, tmod_pos, tdiv_pos, Int.toNat_add, iv] <;> first | rfl | omega) _ (onum_ok x.cmd.seq _ _ s' _ ho (by simp only [flat_cons, flat_nil, flat_app, List.length_append, List.length_nil, List.nil_append, List.length_cons, List.append_nil] at hl hql ⊢; omega)) ?_
  rintro _ h' ⟨rfl, rs'⟩
  have rs := RS.step ⟨ho, hq, hql, k⟩ rs'
  clear rs' ho hq hql k
  refine ze ?_
  (refine goes_done ?_; (try simp only [vq, if_true, reduceIte, Nat.reduceEqDiff, reduceCtorEq]))
  repeat (first | ((first | refine zd ?_ | refine zx ?_ | refine zk ?_ | refine zl ?_ | refine zr ?_); refine zq ?_) | refine zs ?_ | refine zg ?_ | refine zb ?_ | refine zo ?_ | refine zt ?_ | refine zf ?_)
  obtain ⟨s', ho, hq, hql, k⟩ := rs
  refine goes_callS (callable_of Try.func29) (by simp -implicitDefEqProofs (disch := (first | omega | (simp; done) | fail)) [if_pos, if_neg, wrap_i64, tmod_pos, tdiv_pos, Int.toNat_add, iv] <;> first | rfl | omega) _ (onum_ok x.cmd.op _ _ s' _ ho (by simp only [flat_cons, flat_nil, flat_app, List.length_append, List.length_nil, List.nil_append, List.length_cons, List.append_nil] at hl hql ⊢; omega)) ?_
  rintro _ h' ⟨rfl, rs'⟩
  have rs := RS.step ⟨ho, hq, hql, k⟩ rs'
  clear rs' ho hq hql k
  refine ze ?_
  (refine goes_done ?_; (try simp only [vq, if_true, reduceIte, Nat.reduceEqDiff, reduceCtorEq]))
  repeat (first | ((first | refine zd ?_ | refine zx ?_ | refine zk ?_ | refine zl ?_ | refine zr ?_); refine zq ?_) | refine zs ?_ | refine zg ?_ | refine zb ?_ | refine zo ?_ | refine zt ?_ | refine zf ?_)
  obtain ⟨s', ho, hq, hql, k⟩ := rs
  refine goes_callS (callable_of Try.func59) (by simp -implicitDefEqProofs (disch := (first | omega | (simp; done) | fail)) [if_pos, if_neg, wrap_i64, tmod_pos, tdiv_pos, Int.toNat_add, iv] <;> first | rfl | omega) _ (otext_ok x.cmd.path ht1 _ _ s' _ ho (by simp only [flat_cons, flat_nil, flat_app, List.length_append, List.length_nil, List.nil_append, List.length_cons, List.append_nil] at hl hql ⊢; omega)) ?_
  rintro _ h' ⟨rfl, rs'⟩
  have rs := RS.step ⟨ho, hq, hql, k⟩ rs'
  clear rs' ho hq hql k
  refine ze ?_
  (refine goes_done ?_; (try simp only [vq, if_true, reduceIte, Nat.reduceEqDiff, reduceCtorEq]))
  repeat (first | ((first | refine zd ?_ | refine zx ?_ | refine zk ?_ | refine zl ?_ | refine zr ?_); refine zq ?_) | refine zs ?_ | refine zg ?_ | refine zb ?_ | refine zo ?_ | refine zt ?_ | refine zf ?_)
  obtain ⟨s', ho, hq, hql, k⟩ := rs
  refine goes_callS (callable_of Try.func59) (by simp -implicitDefEqProofs (disch := (first | omega | (simp; done) | fail)) [if_pos, if_neg, wrap_i64, tmod_pos, tdiv_pos, Int.toNat_add, iv] <;> first | rfl | omega) _ (otext_ok x.cmd.value ht2 _ _ s' _ ho (by simp only [flat_cons, flat_nil, flat_app, List.length_append, List.length_nil, List.nil_append, List.length_cons, List.append_nil] at hl hql ⊢; omega)) ?_
  rintro _ h' ⟨rfl, rs'⟩
  have rs := RS.step ⟨ho, hq, hql, k⟩ rs'
  clear rs' ho hq hql k
  refine ze ?_
  (refine goes_done ?_; (try simp only [vq, if_true, reduceIte, Nat.reduceEqDiff, reduceCtorEq]))
  repeat (first | ((first | refine zd ?_ | refine zx ?_ | refine zk ?_ | refine zl ?_ | refine zr ?_); refine zq ?_) | refine zs ?_ | refine zg ?_ | refine zb ?_ | refine zo ?_ | refine zt ?_ | refine zf ?_)
  obtain ⟨s', ho, hq, hql, k⟩ := rs
  refine goes_callS (callable_of Try.func29) (by simp -implicitDefEqProofs (disch := (first | omega | (simp; done) | fail)) [if_pos, if_neg, wrap_i64, tmod_pos, tdiv_pos, Int.toNat_add, iv] <;> first | rfl | omega) _ (onum_ok x.cmd.version _ _ s' _ ho (by simp only [flat_cons, flat_nil, flat_app, List.length_append, List.length_nil, List.nil_append, List.length_cons, List.append_nil] at hl hql ⊢; omega)) ?_
  rintro _ h' ⟨rfl, rs'⟩
  have rs := RS.step ⟨ho, hq, hql, k⟩ rs'
  clear rs' ho hq hql k
  refine ze ?_
  (refine goes_done ?_; (try simp only [vq, if_true, reduceIte, Nat.reduceEqDiff, reduceCtorEq]))
  repeat (first | ((first | refine zd ?_ | refine zx ?_ | refine zk ?_ | refine zl ?_ | refine zr ?_); refine zq ?_) | refine zs ?_ | refine zg ?_ | refine zb ?_ | refine zo ?_ | refine zt ?_ | refine zf ?_)
  obtain ⟨s', ho, hq, hql, k⟩ := rs
  refine goes_callS (callable_of Try.func29) (by simp -implicitDefEqProofs (disch := (first | omega | (simp; done) | fail)) [if_pos, if_neg, wrap_i64, tmod_pos, tdiv_pos, Int.toNat_add, iv] <;> first | rfl | omega) _ (onum_ok x.cmd.a _ _ s' _ ho (by simp only [flat_cons, flat_nil, flat_app, List.length_append, List.length_nil, List.nil_append, List.length_cons, List.append_nil] at hl hql ⊢; omega)) ?_
  rintro _ h' ⟨rfl, rs'⟩
  have rs := RS.step ⟨ho, hq, hql, k⟩ rs'
  clear rs' ho hq hql k
  refine ze ?_
  (refine goes_done ?_; (try simp only [vq, if_true, reduceIte, Nat.reduceEqDiff, reduceCtorEq]))
  repeat (first | ((first | refine zd ?_ | refine zx ?_ | refine zk ?_ | refine zl ?_ | refine zr ?_); refine zq ?_) | refine zs ?_ | refine zg ?_ | refine zb ?_ | refine zo ?_ | refine zt ?_ | refine zf ?_)
  obtain ⟨s', ho, hq, hql, k⟩ := rs
  refine goes_callS (callable_of Try.func29) (by simp -implicitDefEqProofs (disch := (first | omega | (simp; done) | fail)) [if_pos, if_neg, wrap_i64, tmod_pos, tdiv_pos, Int.toNat_add, iv] <;> first | rfl | omega) _ (onum_ok x.cmd.b _ _ s' _ ho (by simp only [flat_cons, flat_nil, flat_app, List.length_append, List.length_nil, List.nil_append, List.length_cons, List.append_nil] at hl hql ⊢; omega)) ?_
  rintro _ h' ⟨rfl, rs'⟩
  have rs := RS.step ⟨ho, hq, hql, k⟩ rs'
  clear rs' ho hq hql k
  refine ze ?_
  (refine goes_done ?_; (try simp only [vq, if_true, reduceIte, Nat.reduceEqDiff, reduceCtorEq]))
  repeat (first | ((first | refine zd ?_ | refine zx ?_ | refine zk ?_ | refine zl ?_ | refine zr ?_); refine zq ?_) | refine zs ?_ | refine zg ?_ | refine zb ?_ | refine zo ?_ | refine zt ?_ | refine zf ?_)
  obtain ⟨s', ho, hq, hql, k⟩ := rs
  refine goes_callS (callable_of Try.func29) (by simp -implicitDefEqProofs (disch := (first | omega | (simp; done) | fail)) [if_pos, if_neg, wrap_i64, tmod_pos, tdiv_pos, Int.toNat_add, iv] <;> first | rfl | omega) _ (onum_ok x.seq _ _ s' _ ho (by simp only [flat_cons, flat_nil, flat_app, List.length_append, List.length_nil, List.nil_append, List.length_cons, List.append_nil] at hl hql ⊢; omega)) ?_
  rintro _ h' ⟨rfl, rs'⟩
  have rs := RS.step ⟨ho, hq, hql, k⟩ rs'
  clear rs' ho hq hql k
  refine ze ?_
  (refine goes_done ?_; (try simp only [vq, if_true, reduceIte, Nat.reduceEqDiff, reduceCtorEq]))
  repeat (first | ((first | refine zd ?_ | refine zx ?_ | refine zk ?_ | refine zl ?_ | refine zr ?_); refine zq ?_) | refine zs ?_ | refine zg ?_ | refine zb ?_ | refine zo ?_ | refine zt ?_ | refine zf ?_)
  obtain ⟨s', ho, hq, hql, k⟩ := rs
  refine goes_callS (callable_of Try.func60) (by simp -implicitDefEqProofs (disch := (first | omega | (simp; done) | fail)) [if_pos, if_neg, wrap_i64, tmod_pos, tdiv_pos, Int.toNat_add, iv] <;> first | rfl | omega) _ (olist_ok x.deps.length hn _ _ s' _ ho (by simp only [flat_cons, flat_nil, flat_app, List.length_append, List.length_nil, List.nil_append, List.length_cons, List.append_nil] at hl hql ⊢; omega)) ?_
  rintro _ h' ⟨rfl, rs'⟩
  have rs := RS.step ⟨ho, hq, hql, k⟩ rs'
  clear rs' ho hq hql k
  refine ze ?_
  (refine goes_done ?_; (try simp only [vq, if_true, reduceIte, Nat.reduceEqDiff, reduceCtorEq]))
  repeat (first | ((first | refine zd ?_ | refine zx ?_ | refine zk ?_ | refine zl ?_ | refine zr ?_); refine zq ?_) | refine zs ?_ | refine zg ?_ | refine zb ?_ | refine zo ?_ | refine zt ?_ | refine zf ?_)
  have rs := rs
  obtain ⟨T, hT, rs⟩ : ∃ T, T = _ ∧ RS h oid s b T _ := ⟨_, rfl, rs⟩
  have hlT : s.length + (flat T).length + (flat (x.deps.flatMap Iid.t)).length ≤ 100000000 := by rw [hT]; simp at hl ⊢; omega
  refine awp_loop (fun z st => ∃ (i : Nat) (h1 : AHeap), z = x.deps.length - i ∧ i ≤ x.deps.length ∧ RS h oid s b (T ++ (x.deps.take i).flatMap Iid.t) h1 ∧ st.le ⟨Try.f32.ntmps, [(0, .ptr oid 0), (3, .ref x.c 0), (5, .int .i64 i)], h1⟩) x.deps.length ?_ ?_
  rotate_left
  · rintro z st ⟨i, h', rfl, hi, rs, hle⟩
    refine awp_le hle ?_
    by_cases h5 : i < x.deps.length
    · have h5' : (i : Int) < (x.deps.length : Int) := by omega
      obtain ⟨x0, hx0⟩ : ∃ x0, x.deps[i]? = some x0 := ⟨x.deps[i]'(by omega), by rw [List.getElem?_eq_getElem]⟩
      have hx2 : (x.deps.map Iid.av)[i]? = some (Iid.av x0) := by simp [hx0]
      have hi1 : i + 1 ≤ x.deps.length := by omega
      have h21 : x.deps.length - (i + 1) < x.deps.length - i := by omega
      have hi0 : (i : Int) + 1 ≤ 2000001 := by omega
      have e1 := flatMap_split Iid.t x.deps i x0 hx0
      have e2 := flatMap_next Iid.t x.deps i x0 hx0
      have hlx : s.length + (flat (T ++ (x.deps.take i).flatMap Iid.t)).length + (flat (Iid.t x0)).length ≤ 100000000 := by
        rw [e1] at hlT
        simp only [flat_app, List.length_append] at hlT ⊢
        omega
      clear h5 hle
      cases hB : (b || bads (T ++ (x.deps.take i).flatMap Iid.t)) with
      | true =>
        have rs2 := rs.bad hB (Iid.t x0 ++ (x.deps.drop (i + 1)).flatMap Iid.t)
        rw [List.append_assoc, ← e1] at rs2
        obtain ⟨s', ho, -⟩ := rs
        rw [hB] at ho
        repeat (first | ((first | refine zd ?_ | refine zx ?_ | refine zk ?_ | refine zl ?_ | refine zr ?_); refine zq ?_) | refine zs ?_ | refine zh (by simp -implicitDefEqProofs (disch := (first | omega | (simp; done) | fail)) [if_pos, if_neg, wrap_i64, tmod_pos, tdiv_pos, Int.toNat_add, ho, h5', idl_uni, Iid.av, Iid.c, AV.cells, Inst.c]; rfl) ?_ | refine zb ?_ | refine zo ?_ | refine zt ?_ | refine zf ?_)
        have rs := rs2
        have hkl := rs.len
        first | refine body_all (.inr rfl) (by simp -implicitDefEqProofs; rfl) (by simp -implicitDefEqProofs; rfl) (by first | (simp; done) | (simp; omega) | omega) ?_ | refine body_all (.inl rfl) (by simp -implicitDefEqProofs; rfl) (by simp -implicitDefEqProofs; rfl) (by first | (simp; done) | (simp; omega) | omega) ?_
        exact ⟨rfl, by rw [hT] at rs; simpa [List.append_assoc] using rs⟩
      | false =>
        obtain ⟨s', ho, hq, hql, k⟩ := rs
        have ho' := ho
        rw [hB] at ho'
        repeat (first | ((first | refine zd ?_ | refine zx ?_ | refine zk ?_ | refine zl ?_ | refine zr ?_); refine zq ?_) | refine zs ?_ | refine zh (by simp -implicitDefEqProofs (disch := (first | omega | (simp; done) | fail)) [if_pos, if_neg, wrap_i64, tmod_pos, tdiv_pos, Int.toNat_add, ho', h5', hx2, idl_uni, Iid.av, Iid.c, AV.cells, Inst.c]; rfl) ?_ | refine zb ?_ | refine zo ?_ | refine zt ?_ | refine zf ?_)
        refine goes_callS (callable_of Try.func30) (by simp -implicitDefEqProofs (disch := (first | omega | (simp; done) | fail)) [if_pos, if_neg, wrap_i64, tmod_pos, tdiv_pos, Int.toNat_add, iv, idl_uni, Iid.av, Iid.c, AV.cells, Inst.c] <;> first | rfl | omega) _ (oid_ok x0 _ oid s' _ ho (by omega)) ?_
        rintro _ h' ⟨rfl, rs'⟩
        have rs := RS.step ⟨ho, hq, hql, k⟩ rs'
        clear rs' ho ho' hq hql k
        rw [List.append_assoc, ← e2] at rs
        refine ze ?_
        repeat (first | ((first | refine zd ?_ | refine zx ?_ | refine zk ?_ | refine zl ?_ | refine zr ?_); refine zq ?_) | refine zs ?_ | refine zg ?_ | refine zb ?_ | refine zo ?_ | refine zt ?_ | refine zf ?_)
        exact ⟨x.deps.length - (i + 1), h21, i + 1, h', rfl, hi1, rs, st_keep' (by simp [idl_uni, Iid.av, Iid.c, AV.cells, Inst.c]) (by simp [idl_uni, Iid.av, Iid.c, AV.cells, Inst.c])⟩
    · have h5' : ¬ (i : Int) < (x.deps.length : Int) := by omega
      rw [List.take_of_length_le (by omega)] at rs
      repeat (first | ((first | refine zd ?_ | refine zx ?_ | refine zk ?_ | refine zl ?_ | refine zr ?_); refine zq ?_) | refine zs ?_ | refine zh (by simp -implicitDefEqProofs (disch := (first | omega | (simp; done) | fail)) [if_pos, if_neg, wrap_i64, tmod_pos, tdiv_pos, Int.toNat_add, h5', idl_uni, Iid.av, Iid.c, AV.cells, Inst.c]; rfl) ?_ | refine zb ?_ | refine zo ?_ | refine zt ?_ | refine zf ?_)
      have hkl := rs.len
      first | refine body_all (.inr rfl) (by simp -implicitDefEqProofs; rfl) (by simp -implicitDefEqProofs; rfl) (by first | (simp; done) | (simp; omega) | omega) ?_ | refine body_all (.inl rfl) (by simp -implicitDefEqProofs; rfl) (by simp -implicitDefEqProofs; rfl) (by first | (simp; done) | (simp; omega) | omega) ?_
      exact ⟨rfl, by rw [hT] at rs; simpa [List.append_assoc] using rs⟩
  · exact ⟨0, _, rfl, by omega, by simpa using rs, st_keep' (by simp [idl_uni, Iid.av, Iid.c, AV.cells, Inst.c]) (by simp [idl_uni, Iid.av, Iid.c, AV.cells, Inst.c])⟩
end Go.Proofs.Ytdoaglcnncapdaa.D

/- Messages as bytes: what the document writes, snaps. -/
set_option linter.unusedVariables false
set_option linter.unusedSimpArgs false
set_option maxRecDepth 20000
namespace Go.Proofs.Ytdoaglcnncapdaa.D
open Go Go.Proofs.Ytdoaglcnncapdaa.V Go.Proofs.Ytdoaglcnncapdaa.N
structure Snap.Txt (x : Snap) : Prop where
  paths : ∀ e ∈ x.paths, e.path.length ≤ 2000000 ∧ e.value.length ≤ 2000000
  sess : ∀ e ∈ x.sessions, e.reply.value.length ≤ 2000000 ∧ ∀ n ∈ e.reply.names, n.length ≤ 2000000
theorem osnap_ok (sn : Snap) (hf : sn.Few) (ht : sn.Txt) : RW 33 [.agg sn.c] sn.t := by
  unfold Snap.t listT
  rintro h oid s b ho hl
  have rs : RS h oid s b [] h := RS.start ho
  have hne : ¬ oid = h.length := fun e => by rw [e] at ho; simp at ho
  refine acalls_of_awp Try.func33 rfl (by simp only [List.length_cons, List.length_nil]; decide) ?_
  simp only [params_cons, params_nil]
  refine awp_seq ?_
  refine zg ?_
  refine goes_done ?_
  (try simp only [vq, if_true, reduceIte, Nat.reduceEqDiff, reduceCtorEq])
  refine awp_hard (id := h.length) (by simp -implicitDefEqProofs; rfl) ?_
  simp -implicitDefEqProofs only [Slots.melt, AV.melt, Nat.add_left_cancel_iff, Nat.add_eq_left, Nat.left_eq_add, Nat.reduceEqDiff, reduceIte, Nat.succ_ne_self, Nat.one_ne_zero, Nat.zero_ne_one, List.set_append_right, List.set_append_left, Nat.sub_self, Nat.le_refl, Nat.add_sub_cancel_left, Nat.le_add_right, List.set_cons_zero, List.set_cons_succ, hne]
  have rs := rs.app [.dead]
  have hf1 := hf.nodes
  have hf2 := hf.paths
  have hf3 := hf.sess
  repeat (first | ((first | refine zd ?_ | refine zx ?_ | refine zk ?_ | refine zl ?_ | refine zr ?_); refine zq ?_) | refine zs ?_ | refine zh (by simp -implicitDefEqProofs (disch := (first | omega | (simp; done) | fail)) [if_pos, if_neg, wrap_i64, tmod_pos, tdiv_pos, Int.toNat_add, Snap.c]; rfl) ?_ | refine zb ?_ | refine zo ?_ | refine zt ?_ | refine zf ?_)
  obtain ⟨s', ho, hq, hql, k⟩ := rs
  refine goes_callS (callable_of Try.func29) (by simp -implicitDefEqProofs (disch := (first | omega | (simp; done) | fail)) [if_pos, if_neg, wrap_i64, tmod_pos, tdiv_pos, Int.toNat_add, iv] <;> first | rfl | omega) _ (onum_ok sn.epoch _ _ s' _ ho (by simp only [flat_cons, flat_nil, flat_app, List.length_append, List.length_nil, List.nil_append, List.length_cons, List.append_nil] at hl hql ⊢; omega)) ?_
  rintro _ h' ⟨rfl, rs'⟩
  have rs := RS.step ⟨ho, hq, hql, k⟩ rs'
  clear rs' ho hq hql k
  refine ze ?_
  (refine goes_done ?_; (try simp only [vq, if_true, reduceIte, Nat.reduceEqDiff, reduceCtorEq]))
  repeat (first | ((first | refine zd ?_ | refine zx ?_ | refine zk ?_ | refine zl ?_ | refine zr ?_); refine zq ?_) | refine zs ?_ | refine zh (by simp -implicitDefEqProofs (disch := (first | omega | (simp; done) | fail)) [if_pos, if_neg, wrap_i64, tmod_pos, tdiv_pos, Int.toNat_add, Snap.c]; rfl) ?_ | refine zb ?_ | refine zo ?_ | refine zt ?_ | refine zf ?_)
  obtain ⟨s', ho, hq, hql, k⟩ := rs
  refine goes_callS (callable_of Try.func60) (by simp -implicitDefEqProofs (disch := (first | omega | (simp; done) | fail)) [if_pos, if_neg, wrap_i64, tmod_pos, tdiv_pos, Int.toNat_add, iv] <;> first | rfl | omega) _ (olist_ok sn.nodes.length hf.nodes _ _ s' _ ho (by simp only [flat_cons, flat_nil, flat_app, List.length_append, List.length_nil, List.nil_append, List.length_cons, List.append_nil] at hl hql ⊢; omega)) ?_
  rintro _ h' ⟨rfl, rs'⟩
  have rs := RS.step ⟨ho, hq, hql, k⟩ rs'
  clear rs' ho hq hql k
  refine ze ?_
  (refine goes_done ?_; (try simp only [vq, if_true, reduceIte, Nat.reduceEqDiff, reduceCtorEq]))
  refine awp_cut (fun st => ∃ h1, RS h oid s b (.num sn.epoch :: .size sn.nodes.length :: sn.nodes.flatMap numT) h1 ∧ st.le ⟨Try.f33.ntmps, [(0, .ptr oid 0), (3, .ref sn.c 0)], h1⟩) ?_ ?_
  · repeat (first | ((first | refine zd ?_ | refine zx ?_ | refine zk ?_ | refine zl ?_ | refine zr ?_); refine zq ?_) | refine zs ?_ | refine zg ?_ | refine zb ?_ | refine zo ?_ | refine zt ?_ | refine zf ?_)
    obtain ⟨T, hT, rs⟩ : ∃ T, T = _ ∧ RS h oid s b T _ := ⟨_, rfl, rs⟩
    have hlT : s.length + (flat T).length + (flat (sn.nodes.flatMap numT)).length ≤ 100000000 := by rw [hT]; simp at hl ⊢; omega
    refine awp_loop (fun z st => ∃ (jj : Nat) (h1 : AHeap), z = sn.nodes.length - jj ∧ jj ≤ sn.nodes.length ∧ RS h oid s b (T ++ (sn.nodes.take jj).flatMap numT) h1 ∧ st.le ⟨Try.f33.ntmps, [(0, .ptr oid 0), (3, .ref sn.c 0), (4, .int .i64 jj)], h1⟩) sn.nodes.length ?_ ?_
    rotate_left
    · rintro z st ⟨i, h', rfl, hi, rs, hle⟩
      refine awp_le hle ?_
      by_cases h5 : i < sn.nodes.length
      · have h5' : (i : Int) < (sn.nodes.length : Int) := by omega
        obtain ⟨x, hx⟩ : ∃ x0, sn.nodes[i]? = some x0 := ⟨sn.nodes[i]'(by omega), by rw [List.getElem?_eq_getElem]⟩
        have hy : (sn.nodes.map iv)[i]? = some (iv x) := by simp [hx]
        have hi1 : i + 1 ≤ sn.nodes.length := by omega
        have h21 : sn.nodes.length - (i + 1) < sn.nodes.length - i := by omega
        have hi0 : (i : Int) + 1 ≤ 2000001 := by omega
        have e1 := flatMap_split numT sn.nodes i x hx
        have e2 := flatMap_next numT sn.nodes i x hx
        have hlx : s.length + (flat (T ++ (sn.nodes.take i).flatMap numT)).length + (flat (numT x)).length ≤ 100000000 := by
          rw [e1] at hlT
          simp only [flat_app, List.length_append] at hlT ⊢
          omega
        clear h5 hle
        cases hB : (b || bads (T ++ (sn.nodes.take i).flatMap numT)) with
        | true =>
          have rs2 := rs.bad hB (numT x ++ (sn.nodes.drop (i + 1)).flatMap numT)
          rw [List.append_assoc, ← e1] at rs2
          obtain ⟨s', ho, -⟩ := rs
          rw [hB] at ho
          repeat (first | ((first | refine zd ?_ | refine zx ?_ | refine zk ?_ | refine zl ?_ | refine zr ?_); refine zq ?_) | refine zs ?_ | refine zh (by simp -implicitDefEqProofs (disch := (first | omega | (simp; done) | fail)) [if_pos, if_neg, wrap_i64, tmod_pos, tdiv_pos, Int.toNat_add, ho, h5', iv_uni, AV.cells, Snap.c]; rfl) ?_ | refine zb ?_ | refine zo ?_ | refine zt ?_ | refine zf ?_)
          have rs := rs2
          exact ⟨h', by rw [hT] at rs; simpa using rs, st_keep' (by simp [Snap.c]) (by simp [Snap.c])⟩
        | false =>
          obtain ⟨s', ho', -⟩ := id rs
          rw [hB] at ho'
          repeat (first | ((first | refine zd ?_ | refine zx ?_ | refine zk ?_ | refine zl ?_ | refine zr ?_); refine zq ?_) | refine zs ?_ | refine zh (by simp -implicitDefEqProofs (disch := (first | omega | (simp; done) | fail)) [if_pos, if_neg, wrap_i64, tmod_pos, tdiv_pos, Int.toNat_add, ho', h5', hy, iv_uni, AV.cells, Snap.c]; rfl) ?_ | refine zb ?_ | refine zo ?_ | refine zt ?_ | refine zf ?_)
          obtain ⟨s', ho, hq, hql, k⟩ := rs
          refine goes_callS (callable_of Try.func29) (by simp -implicitDefEqProofs (disch := (first | omega | (simp; done) | fail)) [if_pos, if_neg, wrap_i64, tmod_pos, tdiv_pos, Int.toNat_add, iv] <;> first | rfl | omega) _ (onum_ok x _ oid s' _ ho (by simp [numT] at hlx hql ⊢; omega)) ?_
          rintro _ h' ⟨rfl, rs'⟩
          have rs := RS.step ⟨ho, hq, hql, k⟩ rs'
          clear rs' ho hq hql k
          refine ze ?_
          (refine goes_done ?_; (try simp only [vq, if_true, reduceIte, Nat.reduceEqDiff, reduceCtorEq]))
          have rs : RS h oid s b (T ++ (sn.nodes.take (i + 1)).flatMap numT) h' := by rw [e2]; simpa [numT, List.append_assoc] using rs
          repeat (first | ((first | refine zd ?_ | refine zx ?_ | refine zk ?_ | refine zl ?_ | refine zr ?_); refine zq ?_) | refine zs ?_ | refine zg ?_ | refine zb ?_ | refine zo ?_ | refine zt ?_ | refine zf ?_)
          exact ⟨sn.nodes.length - (i + 1), h21, i + 1, h', rfl, hi1, rs, st_keep' (by simp [Snap.c]) (by simp [Snap.c])⟩
      · have h5' : ¬ (i : Int) < (sn.nodes.length : Int) := by omega
        rw [List.take_of_length_le (by omega)] at rs
        repeat (first | ((first | refine zd ?_ | refine zx ?_ | refine zk ?_ | refine zl ?_ | refine zr ?_); refine zq ?_) | refine zs ?_ | refine zh (by simp -implicitDefEqProofs (disch := (first | omega | (simp; done) | fail)) [if_pos, if_neg, wrap_i64, tmod_pos, tdiv_pos, Int.toNat_add, h5', iv_uni, AV.cells, Snap.c]; rfl) ?_ | refine zb ?_ | refine zo ?_ | refine zt ?_ | refine zf ?_)
        exact ⟨h', by rw [hT] at rs; simpa using rs, st_keep' (by simp [Snap.c]) (by simp [Snap.c])⟩
    · exact ⟨0, _, rfl, by omega, by simpa using rs, st_keep' (by simp [iv_uni, AV.cells, Snap.c]) (by simp [iv_uni, AV.cells, Snap.c])⟩
  rintro st ⟨h', rs, hle⟩
  refine awp_le hle ?_
  repeat (first | ((first | refine zd ?_ | refine zx ?_ | refine zk ?_ | refine zl ?_ | refine zr ?_); refine zq ?_) | refine zs ?_ | refine zh (by simp -implicitDefEqProofs (disch := (first | omega | (simp; done) | fail)) [if_pos, if_neg, wrap_i64, tmod_pos, tdiv_pos, Int.toNat_add, Snap.c]; rfl) ?_ | refine zb ?_ | refine zo ?_ | refine zt ?_ | refine zf ?_)
  obtain ⟨s', ho, hq, hql, k⟩ := rs
  refine goes_callS (callable_of Try.func60) (by simp -implicitDefEqProofs (disch := (first | omega | (simp; done) | fail)) [if_pos, if_neg, wrap_i64, tmod_pos, tdiv_pos, Int.toNat_add, iv] <;> first | rfl | omega) _ (olist_ok sn.paths.length hf.paths _ _ s' _ ho (by simp only [flat_cons, flat_nil, flat_app, List.length_append, List.length_nil, List.nil_append, List.length_cons, List.append_nil] at hl hql ⊢; omega)) ?_
  rintro _ h' ⟨rfl, rs'⟩
  have rs := RS.step ⟨ho, hq, hql, k⟩ rs'
  clear rs' ho hq hql k
  refine ze ?_
  (refine goes_done ?_; (try simp only [vq, if_true, reduceIte, Nat.reduceEqDiff, reduceCtorEq]))
  refine awp_cut (fun st => ∃ h1, RS h oid s b (.num sn.epoch :: .size sn.nodes.length :: (sn.nodes.flatMap numT ++ (.size sn.paths.length :: sn.paths.flatMap Entry.t))) h1 ∧ st.le ⟨Try.f33.ntmps, [(0, .ptr oid 0), (3, .ref sn.c 0)], h1⟩) ?_ ?_
  · repeat (first | ((first | refine zd ?_ | refine zx ?_ | refine zk ?_ | refine zl ?_ | refine zr ?_); refine zq ?_) | refine zs ?_ | refine zg ?_ | refine zb ?_ | refine zo ?_ | refine zt ?_ | refine zf ?_)
    obtain ⟨T, hT, rs⟩ : ∃ T, T = _ ∧ RS h oid s b T _ := ⟨_, rfl, rs⟩
    have hlT : s.length + (flat T).length + (flat (sn.paths.flatMap Entry.t)).length ≤ 100000000 := by rw [hT]; simp at hl ⊢; omega
    refine awp_loop (fun z st => ∃ (jj : Nat) (h1 : AHeap), z = sn.paths.length - jj ∧ jj ≤ sn.paths.length ∧ RS h oid s b (T ++ (sn.paths.take jj).flatMap Entry.t) h1 ∧ st.le ⟨Try.f33.ntmps, [(0, .ptr oid 0), (3, .ref sn.c 0), (5, .int .i64 jj)], h1⟩) sn.paths.length ?_ ?_
    rotate_left
    · rintro z st ⟨i, h', rfl, hi, rs, hle⟩
      refine awp_le hle ?_
      by_cases h5 : i < sn.paths.length
      · have h5' : (i : Int) < (sn.paths.length : Int) := by omega
        obtain ⟨x, hx⟩ : ∃ x0, sn.paths[i]? = some x0 := ⟨sn.paths[i]'(by omega), by rw [List.getElem?_eq_getElem]⟩
        have hy : (sn.paths.map Entry.av)[i]? = some (Entry.av x) := by simp [hx]
        have hi1 : i + 1 ≤ sn.paths.length := by omega
        have h21 : sn.paths.length - (i + 1) < sn.paths.length - i := by omega
        have hi0 : (i : Int) + 1 ≤ 2000001 := by omega
        have e1 := flatMap_split Entry.t sn.paths i x hx
        have e2 := flatMap_next Entry.t sn.paths i x hx
        have hlx : s.length + (flat (T ++ (sn.paths.take i).flatMap Entry.t)).length + (flat (Entry.t x)).length ≤ 100000000 := by
          rw [e1] at hlT
          simp only [flat_app, List.length_append] at hlT ⊢
          omega
        clear h5 hle
        cases hB : (b || bads (T ++ (sn.paths.take i).flatMap Entry.t)) with
        | true =>
          have rs2 := rs.bad hB (Entry.t x ++ (sn.paths.drop (i + 1)).flatMap Entry.t)
          rw [List.append_assoc, ← e1] at rs2
          obtain ⟨s', ho, -⟩ := rs
          rw [hB] at ho
          repeat (first | ((first | refine zd ?_ | refine zx ?_ | refine zk ?_ | refine zl ?_ | refine zr ?_); refine zq ?_) | refine zs ?_ | refine zh (by simp -implicitDefEqProofs (disch := (first | omega | (simp; done) | fail)) [if_pos, if_neg, wrap_i64, tmod_pos, tdiv_pos, Int.toNat_add, ho, h5', entl_uni, Entry.av, Entry.c, AV.cells, Snap.c]; rfl) ?_ | refine zb ?_ | refine zo ?_ | refine zt ?_ | refine zf ?_)
          have rs := rs2
          exact ⟨h', by rw [hT] at rs; simpa using rs, st_keep' (by simp [Snap.c]) (by simp [Snap.c])⟩
        | false =>
          obtain ⟨s', ho', -⟩ := id rs
          rw [hB] at ho'
          have hpx := ht.paths x (List.mem_of_getElem? hx)
          repeat (first | ((first | refine zd ?_ | refine zx ?_ | refine zk ?_ | refine zl ?_ | refine zr ?_); refine zq ?_) | refine zs ?_ | refine zh (by simp -implicitDefEqProofs (disch := (first | omega | (simp; done) | fail)) [if_pos, if_neg, wrap_i64, tmod_pos, tdiv_pos, Int.toNat_add, ho', h5', hy, entl_uni, Entry.av, Entry.c, AV.cells, Snap.c]; rfl) ?_ | refine zb ?_ | refine zo ?_ | refine zt ?_ | refine zf ?_)
          obtain ⟨s', ho, hq, hql, k⟩ := rs
          refine goes_callS (callable_of Try.func59) (by simp -implicitDefEqProofs (disch := (first | omega | (simp; done) | fail)) [if_pos, if_neg, wrap_i64, tmod_pos, tdiv_pos, Int.toNat_add, iv] <;> first | rfl | omega) _ (otext_ok x.path hpx.1 _ oid s' _ ho (by simp [Entry.t] at hlx hql ⊢; omega)) ?_
          rintro _ h' ⟨rfl, rs'⟩
          have rs := RS.step ⟨ho, hq, hql, k⟩ rs'
          clear rs' ho hq hql k
          refine ze ?_
          (refine goes_done ?_; (try simp only [vq, if_true, reduceIte, Nat.reduceEqDiff, reduceCtorEq]))
          repeat (first | ((first | refine zd ?_ | refine zx ?_ | refine zk ?_ | refine zl ?_ | refine zr ?_); refine zq ?_) | refine zs ?_ | refine zh (by simp -implicitDefEqProofs (disch := (first | omega | (simp; done) | fail)) [if_pos, if_neg, wrap_i64, tmod_pos, tdiv_pos, Int.toNat_add, hy, entl_uni, Entry.av, Entry.c, AV.cells, Snap.c]; rfl) ?_ | refine zb ?_ | refine zo ?_ | refine zt ?_ | refine zf ?_)
          obtain ⟨s', ho, hq, hql, k⟩ := rs
          refine goes_callS (callable_of Try.func59) (by simp -implicitDefEqProofs (disch := (first | omega | (simp; done) | fail)) [if_pos, if_neg, wrap_i64, tmod_pos, tdiv_pos, Int.toNat_add, iv] <;> first | rfl | omega) _ (otext_ok x.value hpx.2 _ oid s' _ ho (by simp [Entry.t] at hlx hql ⊢; omega)) ?_
          rintro _ h' ⟨rfl, rs'⟩
          have rs := RS.step ⟨ho, hq, hql, k⟩ rs'
          clear rs' ho hq hql k
          refine ze ?_
          (refine goes_done ?_; (try simp only [vq, if_true, reduceIte, Nat.reduceEqDiff, reduceCtorEq]))
          repeat (first | ((first | refine zd ?_ | refine zx ?_ | refine zk ?_ | refine zl ?_ | refine zr ?_); refine zq ?_) | refine zs ?_ | refine zh (by simp -implicitDefEqProofs (disch := (first | omega | (simp; done) | fail)) [if_pos, if_neg, wrap_i64, tmod_pos, tdiv_pos, Int.toNat_add, hy, entl_uni, Entry.av, Entry.c, AV.cells, Snap.c]; rfl) ?_ | refine zb ?_ | refine zo ?_ | refine zt ?_ | refine zf ?_)
          obtain ⟨s', ho, hq, hql, k⟩ := rs
          refine goes_callS (callable_of Try.func29) (by simp -implicitDefEqProofs (disch := (first | omega | (simp; done) | fail)) [if_pos, if_neg, wrap_i64, tmod_pos, tdiv_pos, Int.toNat_add, iv] <;> first | rfl | omega) _ (onum_ok x.version _ oid s' _ ho (by simp [Entry.t] at hlx hql ⊢; omega)) ?_
          rintro _ h' ⟨rfl, rs'⟩
          have rs := RS.step ⟨ho, hq, hql, k⟩ rs'
          clear rs' ho hq hql k
          refine ze ?_
          (refine goes_done ?_; (try simp only [vq, if_true, reduceIte, Nat.reduceEqDiff, reduceCtorEq]))
          have rs : RS h oid s b (T ++ (sn.paths.take (i + 1)).flatMap Entry.t) h' := by rw [e2]; simpa [Entry.t, List.append_assoc] using rs
          repeat (first | ((first | refine zd ?_ | refine zx ?_ | refine zk ?_ | refine zl ?_ | refine zr ?_); refine zq ?_) | refine zs ?_ | refine zg ?_ | refine zb ?_ | refine zo ?_ | refine zt ?_ | refine zf ?_)
          exact ⟨sn.paths.length - (i + 1), h21, i + 1, h', rfl, hi1, rs, st_keep' (by simp [Snap.c]) (by simp [Snap.c])⟩
      · have h5' : ¬ (i : Int) < (sn.paths.length : Int) := by omega
        rw [List.take_of_length_le (by omega)] at rs
        repeat (first | ((first | refine zd ?_ | refine zx ?_ | refine zk ?_ | refine zl ?_ | refine zr ?_); refine zq ?_) | refine zs ?_ | refine zh (by simp -implicitDefEqProofs (disch := (first | omega | (simp; done) | fail)) [if_pos, if_neg, wrap_i64, tmod_pos, tdiv_pos, Int.toNat_add, h5', entl_uni, Entry.av, Entry.c, AV.cells, Snap.c]; rfl) ?_ | refine zb ?_ | refine zo ?_ | refine zt ?_ | refine zf ?_)
        exact ⟨h', by rw [hT] at rs; simpa using rs, st_keep' (by simp [Snap.c]) (by simp [Snap.c])⟩
    · exact ⟨0, _, rfl, by omega, by simpa using rs, st_keep' (by simp [entl_uni, Entry.av, Entry.c, AV.cells, Snap.c]) (by simp [entl_uni, Entry.av, Entry.c, AV.cells, Snap.c])⟩
  rintro st ⟨h', rs, hle⟩
  refine awp_le hle ?_
  repeat (first | ((first | refine zd ?_ | refine zx ?_ | refine zk ?_ | refine zl ?_ | refine zr ?_); refine zq ?_) | refine zs ?_ | refine zh (by simp -implicitDefEqProofs (disch := (first | omega | (simp; done) | fail)) [if_pos, if_neg, wrap_i64, tmod_pos, tdiv_pos, Int.toNat_add, Snap.c]; rfl) ?_ | refine zb ?_ | refine zo ?_ | refine zt ?_ | refine zf ?_)
  obtain ⟨s', ho, hq, hql, k⟩ := rs
  refine goes_callS (callable_of Try.func60) (by simp -implicitDefEqProofs (disch := (first | omega | (simp; done) | fail)) [if_pos, if_neg, wrap_i64, tmod_pos, tdiv_pos, Int.toNat_add, iv] <;> first | rfl | omega) _ (olist_ok sn.sessions.length hf.sess _ _ s' _ ho (by simp only [flat_cons, flat_nil, flat_app, List.length_append, List.length_nil, List.nil_append, List.length_cons, List.append_nil] at hl hql ⊢; omega)) ?_
  rintro _ h' ⟨rfl, rs'⟩
  have rs := RS.step ⟨ho, hq, hql, k⟩ rs'
  clear rs' ho hq hql k
  refine ze ?_
  (refine goes_done ?_; (try simp only [vq, if_true, reduceIte, Nat.reduceEqDiff, reduceCtorEq]))
  repeat (first | ((first | refine zd ?_ | refine zx ?_ | refine zk ?_ | refine zl ?_ | refine zr ?_); refine zq ?_) | refine zs ?_ | refine zg ?_ | refine zb ?_ | refine zo ?_ | refine zt ?_ | refine zf ?_)
  obtain ⟨T, hT, rs⟩ : ∃ T, T = _ ∧ RS h oid s b T _ := ⟨_, rfl, rs⟩
  have hlT : s.length + (flat T).length + (flat (sn.sessions.flatMap Sess.t)).length ≤ 100000000 := by rw [hT]; simp at hl ⊢; omega
  refine awp_loop (fun z st => ∃ (jj : Nat) (h1 : AHeap), z = sn.sessions.length - jj ∧ jj ≤ sn.sessions.length ∧ RS h oid s b (T ++ (sn.sessions.take jj).flatMap Sess.t) h1 ∧ st.le ⟨Try.f33.ntmps, [(0, .ptr oid 0), (3, .ref sn.c 0), (6, .int .i64 jj)], h1⟩) sn.sessions.length ?_ ?_
  rotate_left
  · rintro z st ⟨i, h', rfl, hi, rs, hle⟩
    refine awp_le hle ?_
    by_cases h5 : i < sn.sessions.length
    · have h5' : (i : Int) < (sn.sessions.length : Int) := by omega
      obtain ⟨x, hx⟩ : ∃ x0, sn.sessions[i]? = some x0 := ⟨sn.sessions[i]'(by omega), by rw [List.getElem?_eq_getElem]⟩
      have hy : (sn.sessions.map Sess.av)[i]? = some (Sess.av x) := by simp [hx]
      have hi1 : i + 1 ≤ sn.sessions.length := by omega
      have h21 : sn.sessions.length - (i + 1) < sn.sessions.length - i := by omega
      have hi0 : (i : Int) + 1 ≤ 2000001 := by omega
      have e1 := flatMap_split Sess.t sn.sessions i x hx
      have e2 := flatMap_next Sess.t sn.sessions i x hx
      have hlx : s.length + (flat (T ++ (sn.sessions.take i).flatMap Sess.t)).length + (flat (Sess.t x)).length ≤ 100000000 := by
        rw [e1] at hlT
        simp only [flat_app, List.length_append] at hlT ⊢
        omega
      clear h5 hle
      cases hB : (b || bads (T ++ (sn.sessions.take i).flatMap Sess.t)) with
      | true =>
        have rs2 := rs.bad hB (Sess.t x ++ (sn.sessions.drop (i + 1)).flatMap Sess.t)
        rw [List.append_assoc, ← e1] at rs2
        obtain ⟨s', ho, -⟩ := rs
        rw [hB] at ho
        repeat (first | ((first | refine zd ?_ | refine zx ?_ | refine zk ?_ | refine zl ?_ | refine zr ?_); refine zq ?_) | refine zs ?_ | refine zh (by simp -implicitDefEqProofs (disch := (first | omega | (simp; done) | fail)) [if_pos, if_neg, wrap_i64, tmod_pos, tdiv_pos, Int.toNat_add, ho, h5', sesl_uni, Sess.av, Sess.c, AV.cells, Snap.c]; rfl) ?_ | refine zb ?_ | refine zo ?_ | refine zt ?_ | refine zf ?_)
        have rs := rs2
        have hkl := rs.len
        first | refine body_all (.inr rfl) (by simp -implicitDefEqProofs; rfl) (by simp -implicitDefEqProofs; rfl) (by first | (simp; done) | (simp; omega) | omega) ?_ | refine body_all (.inl rfl) (by simp -implicitDefEqProofs; rfl) (by simp -implicitDefEqProofs; rfl) (by first | (simp; done) | (simp; omega) | omega) ?_
        exact ⟨rfl, by rw [hT] at rs; simpa [List.append_assoc] using rs⟩
      | false =>
        obtain ⟨s', ho', -⟩ := id rs
        rw [hB] at ho'
        have hpx := ht.sess x (List.mem_of_getElem? hx)
        have hnx := hf.names x (List.mem_of_getElem? hx)
        repeat (first | ((first | refine zd ?_ | refine zx ?_ | refine zk ?_ | refine zl ?_ | refine zr ?_); refine zq ?_) | refine zs ?_ | refine zh (by simp -implicitDefEqProofs (disch := (first | omega | (simp; done) | fail)) [if_pos, if_neg, wrap_i64, tmod_pos, tdiv_pos, Int.toNat_add, ho', h5', hy, sesl_uni, Sess.av, Sess.c, AV.cells, Snap.c]; rfl) ?_ | refine zb ?_ | refine zo ?_ | refine zt ?_ | refine zf ?_)
        obtain ⟨s', ho, hq, hql, k⟩ := rs
        refine goes_callS (callable_of Try.func29) (by simp -implicitDefEqProofs (disch := (first | omega | (simp; done) | fail)) [if_pos, if_neg, wrap_i64, tmod_pos, tdiv_pos, Int.toNat_add, iv] <;> first | rfl | omega) _ (onum_ok x.client _ oid s' _ ho (by simp [Sess.t] at hlx hql ⊢; omega)) ?_
        rintro _ h' ⟨rfl, rs'⟩
        have rs := RS.step ⟨ho, hq, hql, k⟩ rs'
        clear rs' ho hq hql k
        refine ze ?_
        (refine goes_done ?_; (try simp only [vq, if_true, reduceIte, Nat.reduceEqDiff, reduceCtorEq]))
        repeat (first | ((first | refine zd ?_ | refine zx ?_ | refine zk ?_ | refine zl ?_ | refine zr ?_); refine zq ?_) | refine zs ?_ | refine zh (by simp -implicitDefEqProofs (disch := (first | omega | (simp; done) | fail)) [if_pos, if_neg, wrap_i64, tmod_pos, tdiv_pos, Int.toNat_add, hy, sesl_uni, Sess.av, Sess.c, AV.cells, Snap.c]; rfl) ?_ | refine zb ?_ | refine zo ?_ | refine zt ?_ | refine zf ?_)
        obtain ⟨s', ho, hq, hql, k⟩ := rs
        refine goes_callS (callable_of Try.func29) (by simp -implicitDefEqProofs (disch := (first | omega | (simp; done) | fail)) [if_pos, if_neg, wrap_i64, tmod_pos, tdiv_pos, Int.toNat_add, iv] <;> first | rfl | omega) _ (onum_ok x.seq _ oid s' _ ho (by simp [Sess.t] at hlx hql ⊢; omega)) ?_
        rintro _ h' ⟨rfl, rs'⟩
        have rs := RS.step ⟨ho, hq, hql, k⟩ rs'
        clear rs' ho hq hql k
        refine ze ?_
        (refine goes_done ?_; (try simp only [vq, if_true, reduceIte, Nat.reduceEqDiff, reduceCtorEq]))
        have hne := rs.ne
        refine awp_seq ?_
        refine zh (by simp -implicitDefEqProofs (disch := (first | omega | (simp; done) | fail)) [if_pos, if_neg, wrap_i64, tmod_pos, tdiv_pos, Int.toNat_add, hy, sesl_uni, Sess.av, Sess.c, AV.cells, Snap.c]; rfl) ?_
        refine goes_done ?_
        (try simp only [vq, if_true, reduceIte, Nat.reduceEqDiff, reduceCtorEq])
        refine awp_hard (id := h'.length) (by simp -implicitDefEqProofs; rfl) ?_
        simp -implicitDefEqProofs only [Slots.melt, AV.melt, Nat.add_left_cancel_iff, Nat.add_eq_left, Nat.left_eq_add, Nat.reduceEqDiff, reduceIte, Nat.succ_ne_self, Nat.one_ne_zero, Nat.zero_ne_one, List.set_append_right, List.set_append_left, Nat.sub_self, Nat.le_refl, Nat.add_sub_cancel_left, Nat.le_add_right, List.set_cons_zero, List.set_cons_succ, hne]
        have rs := rs.app [.dead]
        repeat (first | ((first | refine zd ?_ | refine zx ?_ | refine zk ?_ | refine zl ?_ | refine zr ?_); refine zq ?_) | refine zs ?_ | refine zg ?_ | refine zb ?_ | refine zo ?_ | refine zt ?_ | refine zf ?_)
        obtain ⟨s', ho, hq, hql, k⟩ := rs
        refine goes_callS (callable_of Try.func29) (by simp -implicitDefEqProofs (disch := (first | omega | (simp; done) | fail)) [if_pos, if_neg, wrap_i64, tmod_pos, tdiv_pos, Int.toNat_add, iv] <;> first | rfl | omega) _ (onum_ok x.reply.err _ oid s' _ ho (by simp [Sess.t, Reply.t] at hlx hql ⊢; omega)) ?_
        rintro _ h' ⟨rfl, rs'⟩
        have rs := RS.step ⟨ho, hq, hql, k⟩ rs'
        clear rs' ho hq hql k
        refine ze ?_
        (refine goes_done ?_; (try simp only [vq, if_true, reduceIte, Nat.reduceEqDiff, reduceCtorEq]))
        repeat (first | ((first | refine zd ?_ | refine zx ?_ | refine zk ?_ | refine zl ?_ | refine zr ?_); refine zq ?_) | refine zs ?_ | refine zg ?_ | refine zb ?_ | refine zo ?_ | refine zt ?_ | refine zf ?_)
        obtain ⟨s', ho, hq, hql, k⟩ := rs
        refine goes_callS (callable_of Try.func59) (by simp -implicitDefEqProofs (disch := (first | omega | (simp; done) | fail)) [if_pos, if_neg, wrap_i64, tmod_pos, tdiv_pos, Int.toNat_add, iv] <;> first | rfl | omega) _ (otext_ok x.reply.value hpx.1 _ oid s' _ ho (by simp [Sess.t, Reply.t] at hlx hql ⊢; omega)) ?_
        rintro _ h' ⟨rfl, rs'⟩
        have rs := RS.step ⟨ho, hq, hql, k⟩ rs'
        clear rs' ho hq hql k
        refine ze ?_
        (refine goes_done ?_; (try simp only [vq, if_true, reduceIte, Nat.reduceEqDiff, reduceCtorEq]))
        repeat (first | ((first | refine zd ?_ | refine zx ?_ | refine zk ?_ | refine zl ?_ | refine zr ?_); refine zq ?_) | refine zs ?_ | refine zg ?_ | refine zb ?_ | refine zo ?_ | refine zt ?_ | refine zf ?_)
        obtain ⟨s', ho, hq, hql, k⟩ := rs
        refine goes_callS (callable_of Try.func29) (by simp -implicitDefEqProofs (disch := (first | omega | (simp; done) | fail)) [if_pos, if_neg, wrap_i64, tmod_pos, tdiv_pos, Int.toNat_add, iv] <;> first | rfl | omega) _ (onum_ok x.reply.version _ oid s' _ ho (by simp [Sess.t, Reply.t] at hlx hql ⊢; omega)) ?_
        rintro _ h' ⟨rfl, rs'⟩
        have rs := RS.step ⟨ho, hq, hql, k⟩ rs'
        clear rs' ho hq hql k
        refine ze ?_
        (refine goes_done ?_; (try simp only [vq, if_true, reduceIte, Nat.reduceEqDiff, reduceCtorEq]))
        repeat (first | ((first | refine zd ?_ | refine zx ?_ | refine zk ?_ | refine zl ?_ | refine zr ?_); refine zq ?_) | refine zs ?_ | refine zg ?_ | refine zb ?_ | refine zo ?_ | refine zt ?_ | refine zf ?_)
        obtain ⟨s', ho, hq, hql, k⟩ := rs
        refine goes_callS (callable_of Try.func60) (by simp -implicitDefEqProofs (disch := (first | omega | (simp; done) | fail)) [if_pos, if_neg, wrap_i64, tmod_pos, tdiv_pos, Int.toNat_add, iv] <;> first | rfl | omega) _ (olist_ok x.reply.names.length hnx _ oid s' _ ho (by simp [Sess.t, Reply.t, listT] at hlx hql ⊢; omega)) ?_
        rintro _ h' ⟨rfl, rs'⟩
        have rs := RS.step ⟨ho, hq, hql, k⟩ rs'
        clear rs' ho hq hql k
        refine ze ?_
        (refine goes_done ?_; (try simp only [vq, if_true, reduceIte, Nat.reduceEqDiff, reduceCtorEq]))
        repeat (first | ((first | refine zd ?_ | refine zx ?_ | refine zk ?_ | refine zl ?_ | refine zr ?_); refine zq ?_) | refine zs ?_ | refine zg ?_ | refine zb ?_ | refine zo ?_ | refine zt ?_ | refine zf ?_)
        obtain ⟨T2, hT2, rs⟩ : ∃ T, T = _ ∧ RS h oid s b T _ := ⟨_, rfl, rs⟩
        have hlT2 : s.length + (flat T2).length + (flat (x.reply.names.flatMap textT)).length ≤ 100000000 := by rw [hT2]; simp [Sess.t, Reply.t, listT] at hlx ⊢; omega
        refine awp_loop (fun z st => ∃ (jj : Nat) (h1 : AHeap), z = x.reply.names.length - jj ∧ jj ≤ x.reply.names.length ∧ RS h oid s b (T2 ++ (x.reply.names.take jj).flatMap textT) h1 ∧ st.le ⟨Try.f33.ntmps, [(0, .ptr oid 0), (3, .ref sn.c 0), (6, .int .i64 i), (7, .ref x.reply.c 0), (8, .int .i64 jj)], h1⟩) x.reply.names.length ?_ ?_
        rotate_left
        · rintro z st ⟨i2, h', rfl, hi2, rs, hle2⟩
          refine awp_le hle2 ?_
          by_cases h5 : i2 < x.reply.names.length
          · have h5' : (i2 : Int) < (x.reply.names.length : Int) := by omega
            obtain ⟨x2, hx2⟩ : ∃ x0, x.reply.names[i2]? = some x0 := ⟨x.reply.names[i2]'(by omega), by rw [List.getElem?_eq_getElem]⟩
            have hy2 : (x.reply.names.map AV.str)[i2]? = some (AV.str x2) := by simp [hx2]
            have hi12 : i2 + 1 ≤ x.reply.names.length := by omega
            have h212 : x.reply.names.length - (i2 + 1) < x.reply.names.length - i2 := by omega
            have hi02 : (i2 : Int) + 1 ≤ 2000001 := by omega
            have e12 := flatMap_split textT x.reply.names i2 x2 hx2
            have e22 := flatMap_next textT x.reply.names i2 x2 hx2
            have hlx2 : s.length + (flat (T2 ++ (x.reply.names.take i2).flatMap textT)).length + (flat (textT x2)).length ≤ 100000000 := by
              rw [e12] at hlT2
              simp only [flat_app, List.length_append] at hlT2 ⊢
              omega
            clear h5 hle2
            cases hB : (b || bads (T2 ++ (x.reply.names.take i2).flatMap textT)) with
            | true =>
              have rs2 := rs.bad hB (textT x2 ++ (x.reply.names.drop (i2 + 1)).flatMap textT)
              rw [List.append_assoc, ← e12] at rs2
              obtain ⟨s', ho, -⟩ := rs
              rw [hB] at ho
              repeat (first | ((first | refine zd ?_ | refine zx ?_ | refine zk ?_ | refine zl ?_ | refine zr ?_); refine zq ?_) | refine zs ?_ | refine zh (by simp -implicitDefEqProofs (disch := (first | omega | (simp; done) | fail)) [if_pos, if_neg, wrap_i64, tmod_pos, tdiv_pos, Int.toNat_add, ho, h5', str_uni, AV.cells, Reply.c, Snap.c]; rfl) ?_ | refine zb ?_ | refine zo ?_ | refine zt ?_ | refine zf ?_)
              have rs := rs2
              have rs : RS h oid s b (T ++ (sn.sessions.take (i + 1)).flatMap Sess.t) h' := by rw [e2]; rw [hT2] at rs; simpa [Sess.t, Reply.t, listT, List.append_assoc] using rs
              repeat (first | ((first | refine zd ?_ | refine zx ?_ | refine zk ?_ | refine zl ?_ | refine zr ?_); refine zq ?_) | refine zs ?_ | refine zg ?_ | refine zb ?_ | refine zo ?_ | refine zt ?_ | refine zf ?_)
              exact ⟨sn.sessions.length - (i + 1), h21, i + 1, h', rfl, hi1, rs, st_keep' (by simp [Snap.c]) (by simp [Snap.c])⟩
            | false =>
              obtain ⟨s', ho', -⟩ := id rs
              rw [hB] at ho'
              have hpn := hpx.2 x2 (List.mem_of_getElem? hx2)
              repeat (first | ((first | refine zd ?_ | refine zx ?_ | refine zk ?_ | refine zl ?_ | refine zr ?_); refine zq ?_) | refine zs ?_ | refine zh (by simp -implicitDefEqProofs (disch := (first | omega | (simp; done) | fail)) [if_pos, if_neg, wrap_i64, tmod_pos, tdiv_pos, Int.toNat_add, ho', h5', hy2, str_uni, AV.cells, Reply.c]; rfl) ?_ | refine zb ?_ | refine zo ?_ | refine zt ?_ | refine zf ?_)
              obtain ⟨s', ho, hq, hql, k⟩ := rs
              refine goes_callS (callable_of Try.func59) (by simp -implicitDefEqProofs (disch := (first | omega | (simp; done) | fail)) [if_pos, if_neg, wrap_i64, tmod_pos, tdiv_pos, Int.toNat_add, iv] <;> first | rfl | omega) _ (otext_ok x2 hpn _ oid s' _ ho (by simp [textT] at hlx2 hql ⊢; omega)) ?_
              rintro _ h' ⟨rfl, rs'⟩
              have rs := RS.step ⟨ho, hq, hql, k⟩ rs'
              clear rs' ho hq hql k
              refine ze ?_
              (refine goes_done ?_; (try simp only [vq, if_true, reduceIte, Nat.reduceEqDiff, reduceCtorEq]))
              have rs : RS h oid s b (T2 ++ (x.reply.names.take (i2 + 1)).flatMap textT) h' := by rw [e22]; simpa [textT, List.append_assoc] using rs
              repeat (first | ((first | refine zd ?_ | refine zx ?_ | refine zk ?_ | refine zl ?_ | refine zr ?_); refine zq ?_) | refine zs ?_ | refine zg ?_ | refine zb ?_ | refine zo ?_ | refine zt ?_ | refine zf ?_)
              exact ⟨x.reply.names.length - (i2 + 1), h212, i2 + 1, h', rfl, hi12, rs, st_keep' (by simp [Reply.c, Snap.c]) (by simp [Reply.c, Snap.c])⟩
          · have h5' : ¬ (i2 : Int) < (x.reply.names.length : Int) := by omega
            rw [List.take_of_length_le (by omega)] at rs
            repeat (first | ((first | refine zd ?_ | refine zx ?_ | refine zk ?_ | refine zl ?_ | refine zr ?_); refine zq ?_) | refine zs ?_ | refine zh (by simp -implicitDefEqProofs (disch := (first | omega | (simp; done) | fail)) [if_pos, if_neg, wrap_i64, tmod_pos, tdiv_pos, Int.toNat_add, h5', str_uni, AV.cells, Reply.c, Snap.c]; rfl) ?_ | refine zb ?_ | refine zo ?_ | refine zt ?_ | refine zf ?_)
            have rs : RS h oid s b (T ++ (sn.sessions.take (i + 1)).flatMap Sess.t) h' := by rw [e2]; rw [hT2] at rs; simpa [Sess.t, Reply.t, listT, List.append_assoc] using rs
            repeat (first | ((first | refine zd ?_ | refine zx ?_ | refine zk ?_ | refine zl ?_ | refine zr ?_); refine zq ?_) | refine zs ?_ | refine zg ?_ | refine zb ?_ | refine zo ?_ | refine zt ?_ | refine zf ?_)
            exact ⟨sn.sessions.length - (i + 1), h21, i + 1, h', rfl, hi1, rs, st_keep' (by simp [Snap.c]) (by simp [Snap.c])⟩
        · exact ⟨0, _, rfl, by omega, by simpa using rs, st_keep' (by simp [str_uni, AV.cells, Reply.c, Snap.c]) (by simp [str_uni, AV.cells, Reply.c, Snap.c])⟩
    · have h5' : ¬ (i : Int) < (sn.sessions.length : Int) := by omega
      rw [List.take_of_length_le (by omega)] at rs
      repeat (first | ((first | refine zd ?_ | refine zx ?_ | refine zk ?_ | refine zl ?_ | refine zr ?_); refine zq ?_) | refine zs ?_ | refine zh (by simp -implicitDefEqProofs (disch := (first | omega | (simp; done) | fail)) [if_pos, if_neg, wrap_i64, tmod_pos, tdiv_pos, Int.toNat_add, h5', sesl_uni, Sess.av, Sess.c, AV.cells, Snap.c]; rfl) ?_ | refine zb ?_ | refine zo ?_ | refine zt ?_ | refine zf ?_)
      have hkl := rs.len
      first | refine body_all (.inr rfl) (by simp -implicitDefEqProofs; rfl) (by simp -implicitDefEqProofs; rfl) (by first | (simp; done) | (simp; omega) | omega) ?_ | refine body_all (.inl rfl) (by simp -implicitDefEqProofs; rfl) (by simp -implicitDefEqProofs; rfl) (by first | (simp; done) | (simp; omega) | omega) ?_
      exact ⟨rfl, by rw [hT] at rs; simpa [List.append_assoc] using rs⟩
  · exact ⟨0, _, rfl, by omega, by simpa using rs, st_keep' (by simp [sesl_uni, Sess.av, Sess.c, AV.cells, Snap.c]) (by simp [sesl_uni, Sess.av, Sess.c, AV.cells, Snap.c])⟩
end Go.Proofs.Ytdoaglcnncapdaa.D

/- Messages as bytes: what the document writes: Msg, Put, Text. -/
set_option linter.unusedVariables false
set_option linter.unusedSimpArgs false
set_option maxRecDepth 20000
namespace Go.Proofs.Ytdoaglcnncapdaa.D
open Go Go.Proofs.Ytdoaglcnncapdaa.V Go.Proofs.Ytdoaglcnncapdaa.N
theorem Msg.c_len (x : Msg) : x.c.length = 27 := rfl
def sV (l : List UInt8) (b : Bool) : AV := .tuple [.str (outB l b), .bool !b]
structure Msg.Ok (m : Msg) : Prop where
  few : m.Few
  txt : m.snap.Txt
  path : m.inst.cmd.path.length ≤ 2000000
  value : m.inst.cmd.value.length ≤ 2000000
theorem rmsg_ok (m : Msg) (hm : m.Ok) (h : AHeap) : ACalls Try.prog 13 [.agg m.c] h fun r h' => r = sV (flat m.t) (bads m.t) ∧ h' = h := by
  obtain ⟨⟨hd, hf, hl0⟩, htx, ht1, ht2⟩ := hm
  have hl : ([] : List UInt8).length + (flat m.t).length ≤ 100000000 := by simpa using hl0
  unfold Msg.t at hl
  have p0 : m.c[0]? = some (iv m.kind) := rfl
  have p1 : m.c[1]? = some (iv m.src) := rfl
  have p2 : m.c[2]? = some (iv m.dst) := rfl
  have q3 : (m.c.drop 3).take 3 = m.id.c := rfl
  have q6 : (m.c.drop 6).take 2 = m.ballot.c := rfl
  have q8 : (m.c.drop 8).take 15 = m.inst.c := rfl
  have q23 : (m.c.drop 23).take 4 = m.snap.c := rfl
  refine acalls_of_awp Try.func13 rfl (by simp only [List.length_cons, List.length_nil]; decide) ?_
  simp only [params_cons, params_nil]
  refine awp_seq ?_
  refine zg ?_
  refine goes_done ?_
  (try simp only [vq, if_true, reduceIte, Nat.reduceEqDiff, reduceCtorEq])
  refine awp_hard (id := h.length) (by simp -implicitDefEqProofs; rfl) ?_
  simp -implicitDefEqProofs only [Slots.melt, AV.melt, Nat.add_left_cancel_iff, Nat.add_eq_left, Nat.left_eq_add, Nat.reduceEqDiff, reduceIte, Nat.succ_ne_self, Nat.one_ne_zero, Nat.zero_ne_one, List.set_append_right, List.set_append_left, Nat.sub_self, Nat.le_refl, Nat.add_sub_cancel_left, Nat.le_add_right, List.set_cons_zero, List.set_cons_succ]
  repeat (first | ((first | refine zd ?_ | refine zx ?_ | refine zk ?_ | refine zl ?_ | refine zr ?_); refine zq ?_) | refine zs ?_ | refine zh (by simp -implicitDefEqProofs (disch := (first | omega | (simp; done) | fail)) [if_pos, if_neg, wrap_i64, tmod_pos, tdiv_pos, Int.toNat_add, p0]; rfl) ?_ | refine zb ?_ | refine zo ?_ | refine zt ?_ | refine zf ?_)
  have rs : RS (h ++ [.dead, .cells [.str [], .bool false]]) (h.length + 1) [] false [] (h ++ [.dead, .cells [.str [], .bool false]]) := RS.start (by simp)
  obtain ⟨s', ho, hq, hql, k⟩ := rs
  refine goes_callS (callable_of Try.func29) (by simp -implicitDefEqProofs (disch := (first | omega | (simp; done) | fail)) [if_pos, if_neg, wrap_i64, tmod_pos, tdiv_pos, Int.toNat_add, iv] <;> first | rfl | omega) _ (onum_ok m.kind _ _ s' _ ho (by simp only [flat_cons, flat_nil, flat_app, List.length_append, List.length_nil, List.nil_append, List.length_cons, List.append_nil] at hl hql ⊢; omega)) ?_
  rintro _ h' ⟨rfl, rs'⟩
  have rs := RS.step ⟨ho, hq, hql, k⟩ rs'
  clear rs' ho hq hql k
  refine ze ?_
  (refine goes_done ?_; (try simp only [vq, if_true, reduceIte, Nat.reduceEqDiff, reduceCtorEq]))
  repeat (first | ((first | refine zd ?_ | refine zx ?_ | refine zk ?_ | refine zl ?_ | refine zr ?_); refine zq ?_) | refine zs ?_ | refine zh (by simp -implicitDefEqProofs (disch := (first | omega | (simp; done) | fail)) [if_pos, if_neg, wrap_i64, tmod_pos, tdiv_pos, Int.toNat_add, p1]; rfl) ?_ | refine zb ?_ | refine zo ?_ | refine zt ?_ | refine zf ?_)
  obtain ⟨s', ho, hq, hql, k⟩ := rs
  refine goes_callS (callable_of Try.func29) (by simp -implicitDefEqProofs (disch := (first | omega | (simp; done) | fail)) [if_pos, if_neg, wrap_i64, tmod_pos, tdiv_pos, Int.toNat_add, iv] <;> first | rfl | omega) _ (onum_ok m.src _ _ s' _ ho (by simp only [flat_cons, flat_nil, flat_app, List.length_append, List.length_nil, List.nil_append, List.length_cons, List.append_nil] at hl hql ⊢; omega)) ?_
  rintro _ h' ⟨rfl, rs'⟩
  have rs := RS.step ⟨ho, hq, hql, k⟩ rs'
  clear rs' ho hq hql k
  refine ze ?_
  (refine goes_done ?_; (try simp only [vq, if_true, reduceIte, Nat.reduceEqDiff, reduceCtorEq]))
  repeat (first | ((first | refine zd ?_ | refine zx ?_ | refine zk ?_ | refine zl ?_ | refine zr ?_); refine zq ?_) | refine zs ?_ | refine zh (by simp -implicitDefEqProofs (disch := (first | omega | (simp; done) | fail)) [if_pos, if_neg, wrap_i64, tmod_pos, tdiv_pos, Int.toNat_add, p2]; rfl) ?_ | refine zb ?_ | refine zo ?_ | refine zt ?_ | refine zf ?_)
  obtain ⟨s', ho, hq, hql, k⟩ := rs
  refine goes_callS (callable_of Try.func29) (by simp -implicitDefEqProofs (disch := (first | omega | (simp; done) | fail)) [if_pos, if_neg, wrap_i64, tmod_pos, tdiv_pos, Int.toNat_add, iv] <;> first | rfl | omega) _ (onum_ok m.dst _ _ s' _ ho (by simp only [flat_cons, flat_nil, flat_app, List.length_append, List.length_nil, List.nil_append, List.length_cons, List.append_nil] at hl hql ⊢; omega)) ?_
  rintro _ h' ⟨rfl, rs'⟩
  have rs := RS.step ⟨ho, hq, hql, k⟩ rs'
  clear rs' ho hq hql k
  refine ze ?_
  (refine goes_done ?_; (try simp only [vq, if_true, reduceIte, Nat.reduceEqDiff, reduceCtorEq]))
  repeat (first | ((first | refine zd ?_ | refine zx ?_ | refine zk ?_ | refine zl ?_ | refine zr ?_); refine zq ?_) | refine zs ?_ | refine zh (by simp -implicitDefEqProofs (disch := (first | omega | (simp; done) | fail)) [if_pos, if_neg, wrap_i64, tmod_pos, tdiv_pos, Int.toNat_add, q3, Msg.c_len]; rfl) ?_ | refine zb ?_ | refine zo ?_ | refine zt ?_ | refine zf ?_)
  obtain ⟨s', ho, hq, hql, k⟩ := rs
  refine goes_callS (callable_of Try.func30) (by simp -implicitDefEqProofs (disch := (first | omega | (simp; done) | fail)) [if_pos, if_neg, wrap_i64, tmod_pos, tdiv_pos, Int.toNat_add, iv, id_strip] <;> first | rfl | omega) _ (oid_ok m.id _ _ s' _ ho (by simp only [flat_cons, flat_nil, flat_app, List.length_append, List.length_nil, List.nil_append, List.length_cons, List.append_nil] at hl hql ⊢; omega)) ?_
  rintro _ h' ⟨rfl, rs'⟩
  have rs := RS.step ⟨ho, hq, hql, k⟩ rs'
  clear rs' ho hq hql k
  refine goes_eq (by simp -implicitDefEqProofs (disch := (first | omega | (simp; done) | fail)) [if_pos, if_neg, wrap_i64, tmod_pos, tdiv_pos, Int.toNat_add, id_strip]; rfl) ?_
  (refine goes_done ?_; (try simp only [vq, if_true, reduceIte, Nat.reduceEqDiff, reduceCtorEq]))
  repeat (first | ((first | refine zd ?_ | refine zx ?_ | refine zk ?_ | refine zl ?_ | refine zr ?_); refine zq ?_) | refine zs ?_ | refine zh (by simp -implicitDefEqProofs (disch := (first | omega | (simp; done) | fail)) [if_pos, if_neg, wrap_i64, tmod_pos, tdiv_pos, Int.toNat_add, q6, Msg.c_len]; rfl) ?_ | refine zb ?_ | refine zo ?_ | refine zt ?_ | refine zf ?_)
  obtain ⟨s', ho, hq, hql, k⟩ := rs
  refine goes_callS (callable_of Try.func31) (by simp -implicitDefEqProofs (disch := (first | omega | (simp; done) | fail)) [if_pos, if_neg, wrap_i64, tmod_pos, tdiv_pos, Int.toNat_add, iv, bal_strip] <;> first | rfl | omega) _ (oballot_ok m.ballot _ _ s' _ ho (by simp only [flat_cons, flat_nil, flat_app, List.length_append, List.length_nil, List.nil_append, List.length_cons, List.append_nil] at hl hql ⊢; omega)) ?_
  rintro _ h' ⟨rfl, rs'⟩
  have rs := RS.step ⟨ho, hq, hql, k⟩ rs'
  clear rs' ho hq hql k
  refine goes_eq (by simp -implicitDefEqProofs (disch := (first | omega | (simp; done) | fail)) [if_pos, if_neg, wrap_i64, tmod_pos, tdiv_pos, Int.toNat_add, bal_strip]; rfl) ?_
  (refine goes_done ?_; (try simp only [vq, if_true, reduceIte, Nat.reduceEqDiff, reduceCtorEq]))
  repeat (first | ((first | refine zd ?_ | refine zx ?_ | refine zk ?_ | refine zl ?_ | refine zr ?_); refine zq ?_) | refine zs ?_ | refine zh (by simp -implicitDefEqProofs (disch := (first | omega | (simp; done) | fail)) [if_pos, if_neg, wrap_i64, tmod_pos, tdiv_pos, Int.toNat_add, q8, Msg.c_len]; rfl) ?_ | refine zb ?_ | refine zo ?_ | refine zt ?_ | refine zf ?_)
  obtain ⟨s', ho, hq, hql, k⟩ := rs
  refine goes_callS (callable_of Try.func32) (by simp -implicitDefEqProofs (disch := (first | omega | (simp; done) | fail)) [if_pos, if_neg, wrap_i64, tmod_pos, tdiv_pos, Int.toNat_add, iv, inst_strip] <;> first | rfl | omega) _ (oinst_ok m.inst hd (fun t ht => by simp at ht; rcases ht with rfl | rfl <;> assumption) _ _ s' _ ho (by simp only [flat_cons, flat_nil, flat_app, List.length_append, List.length_nil, List.nil_append, List.length_cons, List.append_nil] at hl hql ⊢; omega)) ?_
  rintro _ h' ⟨rfl, rs'⟩
  have rs := RS.step ⟨ho, hq, hql, k⟩ rs'
  clear rs' ho hq hql k
  refine goes_eq (by simp -implicitDefEqProofs (disch := (first | omega | (simp; done) | fail)) [if_pos, if_neg, wrap_i64, tmod_pos, tdiv_pos, Int.toNat_add, inst_strip]; rfl) ?_
  (refine goes_done ?_; (try simp only [vq, if_true, reduceIte, Nat.reduceEqDiff, reduceCtorEq]))
  repeat (first | ((first | refine zd ?_ | refine zx ?_ | refine zk ?_ | refine zl ?_ | refine zr ?_); refine zq ?_) | refine zs ?_ | refine zh (by simp -implicitDefEqProofs (disch := (first | omega | (simp; done) | fail)) [if_pos, if_neg, wrap_i64, tmod_pos, tdiv_pos, Int.toNat_add, q23, Msg.c_len]; rfl) ?_ | refine zb ?_ | refine zo ?_ | refine zt ?_ | refine zf ?_)
  obtain ⟨s', ho, hq, hql, k⟩ := rs
  refine goes_callS (callable_of Try.func33) (by simp -implicitDefEqProofs (disch := (first | omega | (simp; done) | fail)) [if_pos, if_neg, wrap_i64, tmod_pos, tdiv_pos, Int.toNat_add, iv, snap_strip] <;> first | rfl | omega) _ (osnap_ok m.snap hf htx _ _ s' _ ho (by simp only [flat_cons, flat_nil, flat_app, List.length_append, List.length_nil, List.nil_append, List.length_cons, List.append_nil] at hl hql ⊢; omega)) ?_
  rintro _ h' ⟨rfl, rs'⟩
  have rs := RS.step ⟨ho, hq, hql, k⟩ rs'
  clear rs' ho hq hql k
  refine goes_eq (by simp -implicitDefEqProofs (disch := (first | omega | (simp; done) | fail)) [if_pos, if_neg, wrap_i64, tmod_pos, tdiv_pos, Int.toNat_add, snap_strip]; rfl) ?_
  (refine goes_done ?_; (try simp only [vq, if_true, reduceIte, Nat.reduceEqDiff, reduceCtorEq]))
  have e : [] ++ [Tk.num m.kind] ++ [Tk.num m.src] ++ [Tk.num m.dst] ++ m.id.t ++ m.ballot.t ++ m.inst.t ++ m.snap.t = m.t := by simp [Msg.t]
  rw [e] at rs
  obtain ⟨s', ho, hq, hql, k⟩ := rs
  obtain ⟨y, rfl⟩ := Kept.app k (fun k hk => by omega)
  simp only [Bool.false_or] at ho hq
  cases hb : bads m.t with
  | true =>
    rw [hb] at ho
    repeat (first | ((first | refine zd ?_ | refine zx ?_ | refine zk ?_ | refine zl ?_ | refine zr ?_); refine zq ?_) | refine zs ?_ | refine zh (by simp -implicitDefEqProofs (disch := (first | omega | (simp; done) | fail)) [if_pos, if_neg, wrap_i64, tmod_pos, tdiv_pos, Int.toNat_add, ho]; rfl) ?_ | refine zb ?_ | refine zo ?_ | refine zt ?_ | refine zf ?_)
    first | refine zy (.inr rfl) ?_ | refine zy (.inl rfl) ?_
    simp [sV, outB]
  | false =>
    rw [hb] at ho
    have hq := hq hb
    repeat (first | ((first | refine zd ?_ | refine zx ?_ | refine zk ?_ | refine zl ?_ | refine zr ?_); refine zq ?_) | refine zs ?_ | refine zh (by simp -implicitDefEqProofs (disch := (first | omega | (simp; done) | fail)) [if_pos, if_neg, wrap_i64, tmod_pos, tdiv_pos, Int.toNat_add, ho]; rfl) ?_ | refine zb ?_ | refine zo ?_ | refine zt ?_ | refine zf ?_)
    first | refine zy (.inr rfl) ?_ | refine zy (.inl rfl) ?_
    simp [sV, outB, hq]
end Go.Proofs.Ytdoaglcnncapdaa.D

/- Messages as bytes: what the document writes: Put, Text. -/
set_option linter.unusedVariables false
set_option linter.unusedSimpArgs false
set_option maxRecDepth 20000
namespace Go.Proofs.Ytdoaglcnncapdaa.D
open Go Go.Proofs.Ytdoaglcnncapdaa.V Go.Proofs.Ytdoaglcnncapdaa.N
theorem rnone_ok (x : Inst) (hn : x.deps.length ≤ 2000000) (h : AHeap) : ACalls Try.prog 38 [.agg x.c] h fun r h' => r = .bool x.zB ∧ h' = h := by
  refine acalls_of_awp Try.func38 rfl (by simp only [List.length_cons, List.length_nil]; decide) ?_
  simp only [params_cons, params_nil]
  refine awp_seq ?_
  refine zg ?_
  refine goes_done ?_
  (try simp only [vq, if_true, reduceIte, Nat.reduceEqDiff, reduceCtorEq])
  refine awp_hard (id := h.length) (by simp -implicitDefEqProofs; rfl) ?_
  simp -implicitDefEqProofs only [Slots.melt, AV.melt, Nat.add_left_cancel_iff, Nat.add_eq_left, Nat.left_eq_add, Nat.reduceEqDiff, reduceIte, Nat.succ_ne_self, Nat.one_ne_zero, Nat.zero_ne_one, List.set_append_right, List.set_append_left, Nat.sub_self, Nat.le_refl, Nat.add_sub_cancel_left, Nat.le_add_right, List.set_cons_zero, List.set_cons_succ]
  simp only [Inst.c]
  cases b1 : (x.status == 0) with
  | false =>
    repeat (first | ((first | refine zd ?_ | refine zx ?_ | refine zk ?_ | refine zl ?_ | refine zr ?_); refine zq ?_) | refine zs ?_ | refine zh (by simp -implicitDefEqProofs (disch := (first | omega | (simp; done) | fail)) [if_pos, if_neg, wrap_i64, tmod_pos, tdiv_pos, Int.toNat_add, b1]; rfl) ?_ | refine zb ?_ | refine zo ?_ | refine zt ?_ | refine zf ?_)
    first | refine zy (.inr rfl) ?_ | refine zy (.inl rfl) ?_
    simp [Inst.zB, Snap.zB, b1]
  | true =>
  cases b2 : x.promise.zB with
  | false =>
    have c2 := b2
    unfold Bal.zB at c2
    repeat (first | ((first | refine zd ?_ | refine zx ?_ | refine zk ?_ | refine zl ?_ | refine zr ?_); refine zq ?_) | refine zs ?_ | refine zh (by simp -implicitDefEqProofs (disch := (first | omega | (simp; done) | fail)) [if_pos, if_neg, wrap_i64, tmod_pos, tdiv_pos, Int.toNat_add, b1, b2, c2]; rfl) ?_ | refine zb ?_ | refine zo ?_ | refine zt ?_ | refine zf ?_)
    first | refine zy (.inr rfl) ?_ | refine zy (.inl rfl) ?_
    simp [Inst.zB, Snap.zB, b1, b2, c2]
  | true =>
  have c2 := b2
  unfold Bal.zB at c2
  cases b3 : x.voted.zB with
  | false =>
    have c3 := b3
    unfold Bal.zB at c3
    repeat (first | ((first | refine zd ?_ | refine zx ?_ | refine zk ?_ | refine zl ?_ | refine zr ?_); refine zq ?_) | refine zs ?_ | refine zh (by simp -implicitDefEqProofs (disch := (first | omega | (simp; done) | fail)) [if_pos, if_neg, wrap_i64, tmod_pos, tdiv_pos, Int.toNat_add, b1, b2, c2, b3, c3]; rfl) ?_ | refine zb ?_ | refine zo ?_ | refine zt ?_ | refine zf ?_)
    first | refine zy (.inr rfl) ?_ | refine zy (.inl rfl) ?_
    simp [Inst.zB, Snap.zB, b1, b2, c2, b3, c3]
  | true =>
  have c3 := b3
  unfold Bal.zB at c3
  cases b4 : x.cmd.zB with
  | false =>
    have c4 := b4
    unfold Cmd.zB at c4
    repeat (first | ((first | refine zd ?_ | refine zx ?_ | refine zk ?_ | refine zl ?_ | refine zr ?_); refine zq ?_) | refine zs ?_ | refine zh (by simp -implicitDefEqProofs (disch := (first | omega | (simp; done) | fail)) [if_pos, if_neg, wrap_i64, tmod_pos, tdiv_pos, Int.toNat_add, b1, b2, c2, b3, c3, b4, c4]; rfl) ?_ | refine zb ?_ | refine zo ?_ | refine zt ?_ | refine zf ?_)
    first | refine zy (.inr rfl) ?_ | refine zy (.inl rfl) ?_
    simp [Inst.zB, Snap.zB, b1, b2, c2, b3, c3, b4, c4]
  | true =>
  have c4 := b4
  unfold Cmd.zB at c4
  cases b5 : (x.seq == 0) with
  | false =>
    repeat (first | ((first | refine zd ?_ | refine zx ?_ | refine zk ?_ | refine zl ?_ | refine zr ?_); refine zq ?_) | refine zs ?_ | refine zh (by simp -implicitDefEqProofs (disch := (first | omega | (simp; done) | fail)) [if_pos, if_neg, wrap_i64, tmod_pos, tdiv_pos, Int.toNat_add, b1, b2, c2, b3, c3, b4, c4, b5]; rfl) ?_ | refine zb ?_ | refine zo ?_ | refine zt ?_ | refine zf ?_)
    first | refine zy (.inr rfl) ?_ | refine zy (.inl rfl) ?_
    simp [Inst.zB, Snap.zB, b1, b2, c2, b3, c3, b4, c4, b5]
  | true =>
  cases b6 : ((x.deps.length : Int) == 0) with
  | false =>
    repeat (first | ((first | refine zd ?_ | refine zx ?_ | refine zk ?_ | refine zl ?_ | refine zr ?_); refine zq ?_) | refine zs ?_ | refine zh (by simp -implicitDefEqProofs (disch := (first | omega | (simp; done) | fail)) [if_pos, if_neg, wrap_i64, tmod_pos, tdiv_pos, Int.toNat_add, b1, b2, c2, b3, c3, b4, c4, b5, b6]; rfl) ?_ | refine zb ?_ | refine zo ?_ | refine zt ?_ | refine zf ?_)
    first | refine zy (.inr rfl) ?_ | refine zy (.inl rfl) ?_
    simp [Inst.zB, Snap.zB, b1, b2, c2, b3, c3, b4, c4, b5, b6]
  | true =>
    repeat (first | ((first | refine zd ?_ | refine zx ?_ | refine zk ?_ | refine zl ?_ | refine zr ?_); refine zq ?_) | refine zs ?_ | refine zh (by simp -implicitDefEqProofs (disch := (first | omega | (simp; done) | fail)) [if_pos, if_neg, wrap_i64, tmod_pos, tdiv_pos, Int.toNat_add, b1, b2, c2, b3, c3, b4, c4, b5, b6]; rfl) ?_ | refine zb ?_ | refine zo ?_ | refine zt ?_ | refine zf ?_)
    first | refine zy (.inr rfl) ?_ | refine zy (.inl rfl) ?_
    simp [Inst.zB, Snap.zB, b1, b2, c2, b3, c3, b4, c4, b5, b6]
theorem rtext_ok (m : Msg) (hm : m.Ok) (h : AHeap) : ACalls Try.prog 21 [.agg m.c] h fun r h' => r = .str (if bads m.t then [110, 111, 110, 101] else 61 :: flat m.t) ∧ h' = h := by
  have hs := msg_strip m
  have hl := hm.few.2.2
  have hl2 : (flat m.t).length + 1 ≤ 9223372036854775807 := by omega
  refine acalls_of_awp Try.func21 rfl (by simp only [List.length_cons, List.length_nil]; decide) ?_
  simp only [params_cons, params_nil]
  refine awp_seq ?_
  refine zg ?_
  refine goes_done ?_
  (try simp only [vq, if_true, reduceIte, Nat.reduceEqDiff, reduceCtorEq])
  refine awp_hard (id := h.length) (by simp -implicitDefEqProofs; rfl) ?_
  simp -implicitDefEqProofs only [Slots.melt, AV.melt, Nat.add_left_cancel_iff, Nat.add_eq_left, Nat.left_eq_add, Nat.reduceEqDiff, reduceIte, Nat.succ_ne_self, Nat.one_ne_zero, Nat.zero_ne_one, List.set_append_right, List.set_append_left, Nat.sub_self, Nat.le_refl, Nat.add_sub_cancel_left, Nat.le_add_right, List.set_cons_zero, List.set_cons_succ]
  have q0 : m.c.take 27 = m.c := rfl
  repeat (first | ((first | refine zd ?_ | refine zx ?_ | refine zk ?_ | refine zl ?_ | refine zr ?_); refine zq ?_) | refine zs ?_ | refine zh (by simp -implicitDefEqProofs (disch := (first | omega | (simp; done) | fail)) [if_pos, if_neg, wrap_i64, tmod_pos, tdiv_pos, Int.toNat_add, Msg.c_len, q0]; rfl) ?_ | refine zb ?_ | refine zo ?_ | refine zt ?_ | refine zf ?_)
  refine goes_callS (callable_of Try.func13) (by simp -implicitDefEqProofs (disch := (first | omega | (simp; done) | fail)) [if_pos, if_neg, wrap_i64, tmod_pos, tdiv_pos, Int.toNat_add, hs] <;> first | rfl | omega) _ (rmsg_ok m hm _) ?_
  rintro _ h1 ⟨rfl, rfl⟩
  cases hb : bads m.t with
  | true =>
    refine goes_eq (by simp -implicitDefEqProofs (disch := (first | omega | (simp; done) | fail)) [if_pos, if_neg, wrap_i64, tmod_pos, tdiv_pos, Int.toNat_add, sV, outB]; rfl) ?_
    repeat (first | ((first | refine zd ?_ | refine zx ?_ | refine zk ?_ | refine zl ?_ | refine zr ?_); refine zq ?_) | refine zs ?_ | refine zg ?_ | refine zb ?_ | refine zo ?_ | refine zt ?_ | refine zf ?_)
    first | refine zy (.inr rfl) ?_ | refine zy (.inl rfl) ?_
    simp
  | false =>
    refine goes_eq (by simp -implicitDefEqProofs (disch := (first | omega | (simp; done) | fail)) [if_pos, if_neg, wrap_i64, tmod_pos, tdiv_pos, Int.toNat_add, sV, outB]; rfl) ?_
    repeat (first | ((first | refine zd ?_ | refine zx ?_ | refine zk ?_ | refine zl ?_ | refine zr ?_); refine zq ?_) | refine zs ?_ | refine zh (by simp -implicitDefEqProofs (disch := (first | omega | (simp; done) | fail)) [if_pos, if_neg, wrap_i64, tmod_pos, tdiv_pos, Int.toNat_add, hl2]; rfl) ?_ | refine zb ?_ | refine zo ?_ | refine zt ?_ | refine zf ?_)
    first | refine zy (.inr rfl) ?_ | refine zy (.inl rfl) ?_
    simp
structure Rec.Ok (r : Rec) : Prop where
  few : r.Few
  txt : r.snap.Txt
  path : r.inst.cmd.path.length ≤ 2000000
  value : r.inst.cmd.value.length ≤ 2000000
theorem rput_ok (x : Rec) (hx : x.Ok) (h : AHeap) : ACalls Try.prog 15 [.agg x.c] h fun r h' => r = (if x.bad then sV [] true else sV (flat x.t) (bads x.t)) ∧ h' = h := by
  obtain ⟨⟨hd, hf, hl0⟩, htx, ht1, ht2⟩ := hx
  have hl : ([] : List UInt8).length + (flat x.t).length ≤ 100000000 := by simpa using hl0
  have p0 : x.c[0]? = some (.bool x.sl) := rfl
  have q1 : x.c.tail.take 3 = x.id.c := rfl
  have q4 : (x.c.drop 4).take 15 = x.inst.c := rfl
  have q19 : (x.c.drop 19).take 4 = x.snap.c := rfl
  have p19 : x.c[19]? = some (iv x.snap.epoch) := rfl
  have p20 : x.c[20]? = some (.list (x.snap.nodes.map iv) .no) := rfl
  have p21 : x.c[21]? = some (.list (x.snap.paths.map Entry.av) .no) := rfl
  have p22 : x.c[22]? = some (.list (x.snap.sessions.map Sess.av) .no) := rfl
  refine acalls_of_awp Try.func15 rfl (by simp only [List.length_cons, List.length_nil]; decide) ?_
  simp only [params_cons, params_nil]
  refine awp_seq ?_
  refine zg ?_
  refine goes_done ?_
  (try simp only [vq, if_true, reduceIte, Nat.reduceEqDiff, reduceCtorEq])
  refine awp_hard (id := h.length) (by simp -implicitDefEqProofs; rfl) ?_
  simp -implicitDefEqProofs only [Slots.melt, AV.melt, Nat.add_left_cancel_iff, Nat.add_eq_left, Nat.left_eq_add, Nat.reduceEqDiff, reduceIte, Nat.succ_ne_self, Nat.one_ne_zero, Nat.zero_ne_one, List.set_append_right, List.set_append_left, Nat.sub_self, Nat.le_refl, Nat.add_sub_cancel_left, Nat.le_add_right, List.set_cons_zero, List.set_cons_succ]
  refine awp_seq ?_
  refine zg ?_
  refine goes_done ?_
  (try simp only [vq, if_true, reduceIte, Nat.reduceEqDiff, reduceCtorEq])
  have rs : RS (h ++ [.dead, .cells [.str [], .bool false]]) (h.length + 1) [] false [] (h ++ [.dead, .cells [.str [], .bool false]]) := RS.start (by simp)
  cases b1 : x.sl with
  | true =>
    rw [b1] at p0
    simp only [Rec.t, b1, if_true] at hl
    repeat (first | ((first | refine zd ?_ | refine zx ?_ | refine zk ?_ | refine zl ?_ | refine zr ?_); refine zq ?_) | refine zs ?_ | refine zh (by simp -implicitDefEqProofs (disch := (first | omega | (simp; done) | fail)) [if_pos, if_neg, wrap_i64, tmod_pos, tdiv_pos, Int.toNat_add, p0]; rfl) ?_ | refine zb ?_ | refine zo ?_ | refine zt ?_ | refine zf ?_)
    obtain ⟨s', ho, hq, hql, k⟩ := rs
    refine goes_callS (callable_of Try.func29) (by simp -implicitDefEqProofs (disch := (first | omega | (simp; done) | fail)) [if_pos, if_neg, wrap_i64, tmod_pos, tdiv_pos, Int.toNat_add, iv] <;> first | rfl | omega) _ (onum_ok 1 _ _ s' _ ho (by simp only [flat_cons, flat_nil, flat_app, List.length_append, List.length_nil, List.nil_append, List.length_cons, List.append_nil] at hl hql ⊢; omega)) ?_
    rintro _ h' ⟨rfl, rs'⟩
    have rs := RS.step ⟨ho, hq, hql, k⟩ rs'
    clear rs' ho hq hql k
    refine ze ?_
    (refine goes_done ?_; (try simp only [vq, if_true, reduceIte, Nat.reduceEqDiff, reduceCtorEq]))
    repeat (first | ((first | refine zd ?_ | refine zx ?_ | refine zk ?_ | refine zl ?_ | refine zr ?_); refine zq ?_) | refine zs ?_ | refine zh (by simp -implicitDefEqProofs (disch := (first | omega | (simp; done) | fail)) [if_pos, if_neg, wrap_i64, tmod_pos, tdiv_pos, Int.toNat_add, q19, Rec.c_len]; rfl) ?_ | refine zb ?_ | refine zo ?_ | refine zt ?_ | refine zf ?_)
    obtain ⟨s', ho, hq, hql, k⟩ := rs
    refine goes_callS (callable_of Try.func33) (by simp -implicitDefEqProofs (disch := (first | omega | (simp; done) | fail)) [if_pos, if_neg, wrap_i64, tmod_pos, tdiv_pos, Int.toNat_add, iv, snap_strip] <;> first | rfl | omega) _ (osnap_ok x.snap hf htx _ _ s' _ ho (by simp only [flat_cons, flat_nil, flat_app, List.length_append, List.length_nil, List.nil_append, List.length_cons, List.append_nil] at hl hql ⊢; omega)) ?_
    rintro _ h' ⟨rfl, rs'⟩
    have rs := RS.step ⟨ho, hq, hql, k⟩ rs'
    clear rs' ho hq hql k
    refine goes_eq (by simp -implicitDefEqProofs (disch := (first | omega | (simp; done) | fail)) [if_pos, if_neg, wrap_i64, tmod_pos, tdiv_pos, Int.toNat_add, snap_strip]; rfl) ?_
    (refine goes_done ?_; (try simp only [vq, if_true, reduceIte, Nat.reduceEqDiff, reduceCtorEq]))
    obtain ⟨s', ho, hq, hql, k⟩ := rs
    obtain ⟨y, rfl⟩ := Kept.app k (fun k hk => by omega)
    have e : [] ++ [Tk.num 1] ++ x.snap.t = Tk.num 1 :: x.snap.t := by simp
    simp only [Bool.false_or, e] at ho hq
    cases hb : bads (Tk.num 1 :: x.snap.t) with
    | true =>
      rw [hb] at ho
      have hy := ho
      rw [List.getElem?_append_right (by omega), Nat.add_sub_cancel_left] at hy
      have hs1 : ∀ x, (y.set 1 x)[1]? = some x := fun x => List.getElem?_set_self (List.getElem?_eq_some_iff.1 hy).1
      repeat (first | ((first | refine zd ?_ | refine zx ?_ | refine zk ?_ | refine zl ?_ | refine zr ?_); refine zq ?_) | refine zs ?_ | refine zh (by simp -implicitDefEqProofs (disch := (first | omega | (simp; done) | fail)) [if_pos, if_neg, wrap_i64, tmod_pos, tdiv_pos, Int.toNat_add, hy, hs1]; rfl) ?_ | refine zb ?_ | refine zo ?_ | refine zt ?_ | refine zf ?_)
      first | refine zy (.inr rfl) ?_ | refine zy (.inl rfl) ?_
      simp [sV, outB, Rec.bad, Rec.t, *]
    | false =>
      rw [hb] at ho
      have hy := ho
      rw [List.getElem?_append_right (by omega), Nat.add_sub_cancel_left] at hy
      have hs1 : ∀ x, (y.set 1 x)[1]? = some x := fun x => List.getElem?_set_self (List.getElem?_eq_some_iff.1 hy).1
      have hq := hq hb
      cases b2 : x.id.zB with
      | false =>
        have c2 := b2
        unfold Iid.zB at c2
        repeat (first | ((first | refine zd ?_ | refine zx ?_ | refine zk ?_ | refine zl ?_ | refine zr ?_); refine zq ?_) | refine zs ?_ | refine zh (by simp -implicitDefEqProofs (disch := (first | omega | (simp; done) | fail)) [if_pos, if_neg, wrap_i64, tmod_pos, tdiv_pos, Int.toNat_add, hy, hs1, p0, Rec.c_len, q1, Iid.c, c2]; rfl) ?_ | refine zb ?_ | refine zo ?_ | refine zt ?_ | refine zf ?_)
        first | refine zy (.inr rfl) ?_ | refine zy (.inl rfl) ?_
        simp [sV, outB, Rec.bad, Rec.t, *]
      | true =>
        have c2 := b2
        unfold Iid.zB at c2
        repeat (first | ((first | refine zd ?_ | refine zx ?_ | refine zk ?_ | refine zl ?_ | refine zr ?_); refine zq ?_) | refine zs ?_ | refine zh (by simp -implicitDefEqProofs (disch := (first | omega | (simp; done) | fail)) [if_pos, if_neg, wrap_i64, tmod_pos, tdiv_pos, Int.toNat_add, hy, p0, Rec.c_len, q1, q4, Iid.c, c2]; rfl) ?_ | refine zb ?_ | refine zo ?_ | refine zt ?_ | refine zf ?_)
        refine goes_callS (callable_of Try.func38) (by simp -implicitDefEqProofs (disch := (first | omega | (simp; done) | fail)) [if_pos, if_neg, wrap_i64, tmod_pos, tdiv_pos, Int.toNat_add, inst_strip] <;> first | rfl | omega) _ (rnone_ok x.inst hd _) ?_
        rintro _ h1 ⟨rfl, rfl⟩
        cases b3 : x.inst.zB with
        | false =>
          refine goes_eq (by simp -implicitDefEqProofs (disch := (first | omega | (simp; done) | fail)) [if_pos, if_neg, wrap_i64, tmod_pos, tdiv_pos, Int.toNat_add, hy, hs1]; rfl) ?_
          repeat (first | ((first | refine zd ?_ | refine zx ?_ | refine zk ?_ | refine zl ?_ | refine zr ?_); refine zq ?_) | refine zs ?_ | refine zh (by simp -implicitDefEqProofs (disch := (first | omega | (simp; done) | fail)) [if_pos, if_neg, wrap_i64, tmod_pos, tdiv_pos, Int.toNat_add, hy, hs1]; rfl) ?_ | refine zb ?_ | refine zo ?_ | refine zt ?_ | refine zf ?_)
          first | refine zy (.inr rfl) ?_ | refine zy (.inl rfl) ?_
          simp [sV, outB, Rec.bad, Rec.t, *]
        | true =>
          refine goes_eq (by simp -implicitDefEqProofs (disch := (first | omega | (simp; done) | fail)) [if_pos, if_neg, wrap_i64, tmod_pos, tdiv_pos, Int.toNat_add, hy, hs1]; rfl) ?_
          repeat (first | ((first | refine zd ?_ | refine zx ?_ | refine zk ?_ | refine zl ?_ | refine zr ?_); refine zq ?_) | refine zs ?_ | refine zh (by simp -implicitDefEqProofs (disch := (first | omega | (simp; done) | fail)) [if_pos, if_neg, wrap_i64, tmod_pos, tdiv_pos, Int.toNat_add, hy, hs1]; rfl) ?_ | refine zb ?_ | refine zo ?_ | refine zt ?_ | refine zf ?_)
          first | refine zy (.inr rfl) ?_ | refine zy (.inl rfl) ?_
          simp [sV, outB, Rec.bad, Rec.t, *]
  | false =>
    rw [b1] at p0
    simp only [Rec.t, b1, Bool.false_eq_true, if_false] at hl
    repeat (first | ((first | refine zd ?_ | refine zx ?_ | refine zk ?_ | refine zl ?_ | refine zr ?_); refine zq ?_) | refine zs ?_ | refine zh (by simp -implicitDefEqProofs (disch := (first | omega | (simp; done) | fail)) [if_pos, if_neg, wrap_i64, tmod_pos, tdiv_pos, Int.toNat_add, p0]; rfl) ?_ | refine zb ?_ | refine zo ?_ | refine zt ?_ | refine zf ?_)
    obtain ⟨s', ho, hq, hql, k⟩ := rs
    refine goes_callS (callable_of Try.func29) (by simp -implicitDefEqProofs (disch := (first | omega | (simp; done) | fail)) [if_pos, if_neg, wrap_i64, tmod_pos, tdiv_pos, Int.toNat_add, iv] <;> first | rfl | omega) _ (onum_ok 0 _ _ s' _ ho (by simp only [flat_cons, flat_nil, flat_app, List.length_append, List.length_nil, List.nil_append, List.length_cons, List.append_nil] at hl hql ⊢; omega)) ?_
    rintro _ h' ⟨rfl, rs'⟩
    have rs := RS.step ⟨ho, hq, hql, k⟩ rs'
    clear rs' ho hq hql k
    refine ze ?_
    (refine goes_done ?_; (try simp only [vq, if_true, reduceIte, Nat.reduceEqDiff, reduceCtorEq]))
    repeat (first | ((first | refine zd ?_ | refine zx ?_ | refine zk ?_ | refine zl ?_ | refine zr ?_); refine zq ?_) | refine zs ?_ | refine zh (by simp -implicitDefEqProofs (disch := (first | omega | (simp; done) | fail)) [if_pos, if_neg, wrap_i64, tmod_pos, tdiv_pos, Int.toNat_add, q1, Rec.c_len]; rfl) ?_ | refine zb ?_ | refine zo ?_ | refine zt ?_ | refine zf ?_)
    obtain ⟨s', ho, hq, hql, k⟩ := rs
    refine goes_callS (callable_of Try.func30) (by simp -implicitDefEqProofs (disch := (first | omega | (simp; done) | fail)) [if_pos, if_neg, wrap_i64, tmod_pos, tdiv_pos, Int.toNat_add, iv, id_strip] <;> first | rfl | omega) _ (oid_ok x.id _ _ s' _ ho (by simp only [flat_cons, flat_nil, flat_app, List.length_append, List.length_nil, List.nil_append, List.length_cons, List.append_nil] at hl hql ⊢; omega)) ?_
    rintro _ h' ⟨rfl, rs'⟩
    have rs := RS.step ⟨ho, hq, hql, k⟩ rs'
    clear rs' ho hq hql k
    refine goes_eq (by simp -implicitDefEqProofs (disch := (first | omega | (simp; done) | fail)) [if_pos, if_neg, wrap_i64, tmod_pos, tdiv_pos, Int.toNat_add, id_strip]; rfl) ?_
    (refine goes_done ?_; (try simp only [vq, if_true, reduceIte, Nat.reduceEqDiff, reduceCtorEq]))
    repeat (first | ((first | refine zd ?_ | refine zx ?_ | refine zk ?_ | refine zl ?_ | refine zr ?_); refine zq ?_) | refine zs ?_ | refine zh (by simp -implicitDefEqProofs (disch := (first | omega | (simp; done) | fail)) [if_pos, if_neg, wrap_i64, tmod_pos, tdiv_pos, Int.toNat_add, q4, Rec.c_len]; rfl) ?_ | refine zb ?_ | refine zo ?_ | refine zt ?_ | refine zf ?_)
    obtain ⟨s', ho, hq, hql, k⟩ := rs
    refine goes_callS (callable_of Try.func32) (by simp -implicitDefEqProofs (disch := (first | omega | (simp; done) | fail)) [if_pos, if_neg, wrap_i64, tmod_pos, tdiv_pos, Int.toNat_add, iv, inst_strip] <;> first | rfl | omega) _ (oinst_ok x.inst hd (fun t ht => by simp at ht; rcases ht with rfl | rfl <;> assumption) _ _ s' _ ho (by simp only [flat_cons, flat_nil, flat_app, List.length_append, List.length_nil, List.nil_append, List.length_cons, List.append_nil] at hl hql ⊢; omega)) ?_
    rintro _ h' ⟨rfl, rs'⟩
    have rs := RS.step ⟨ho, hq, hql, k⟩ rs'
    clear rs' ho hq hql k
    refine goes_eq (by simp -implicitDefEqProofs (disch := (first | omega | (simp; done) | fail)) [if_pos, if_neg, wrap_i64, tmod_pos, tdiv_pos, Int.toNat_add, inst_strip]; rfl) ?_
    (refine goes_done ?_; (try simp only [vq, if_true, reduceIte, Nat.reduceEqDiff, reduceCtorEq]))
    obtain ⟨s', ho, hq, hql, k⟩ := rs
    obtain ⟨y, rfl⟩ := Kept.app k (fun k hk => by omega)
    have e : [] ++ [Tk.num 0] ++ x.id.t ++ x.inst.t = Tk.num 0 :: (x.id.t ++ x.inst.t) := by simp
    simp only [Bool.false_or, e] at ho hq
    obtain ⟨f1, f2, f3, f4⟩ := hf
    cases hb : bads (Tk.num 0 :: (x.id.t ++ x.inst.t)) with
    | true =>
      rw [hb] at ho
      have hy := ho
      rw [List.getElem?_append_right (by omega), Nat.add_sub_cancel_left] at hy
      have hs1 : ∀ x, (y.set 1 x)[1]? = some x := fun x => List.getElem?_set_self (List.getElem?_eq_some_iff.1 hy).1
      repeat (first | ((first | refine zd ?_ | refine zx ?_ | refine zk ?_ | refine zl ?_ | refine zr ?_); refine zq ?_) | refine zs ?_ | refine zh (by simp -implicitDefEqProofs (disch := (first | omega | (simp; done) | fail)) [if_pos, if_neg, wrap_i64, tmod_pos, tdiv_pos, Int.toNat_add, hy, hs1]; rfl) ?_ | refine zb ?_ | refine zo ?_ | refine zt ?_ | refine zf ?_)
      first | refine zy (.inr rfl) ?_ | refine zy (.inl rfl) ?_
      simp [sV, outB, Rec.bad, Rec.t, *]
    | false =>
      rw [hb] at ho
      have hy := ho
      rw [List.getElem?_append_right (by omega), Nat.add_sub_cancel_left] at hy
      have hs1 : ∀ x, (y.set 1 x)[1]? = some x := fun x => List.getElem?_set_self (List.getElem?_eq_some_iff.1 hy).1
      have hq := hq hb
      cases b2 : (x.snap.epoch == 0) with
      | false =>
        have c2 : (x.snap.epoch != 0) = true := by simpa using b2
        have b3 : x.snap.zB = false := by simp [Snap.zB, b2]
        repeat (first | ((first | refine zd ?_ | refine zx ?_ | refine zk ?_ | refine zl ?_ | refine zr ?_); refine zq ?_) | refine zs ?_ | refine zh (by simp -implicitDefEqProofs (disch := (first | omega | (simp; done) | fail)) [if_pos, if_neg, wrap_i64, tmod_pos, tdiv_pos, Int.toNat_add, hy, hs1, p19, c2]; rfl) ?_ | refine zb ?_ | refine zo ?_ | refine zt ?_ | refine zf ?_)
        first | refine zy (.inr rfl) ?_ | refine zy (.inl rfl) ?_
        simp [sV, outB, Rec.bad, Rec.t, *]
      | true =>
        have c2 : (x.snap.epoch != 0) = false := by simpa using b2
        by_cases h0 : (0 : Int) < (x.snap.nodes.length : Int) + (x.snap.paths.length : Int) + (x.snap.sessions.length : Int)
        · have b3 : x.snap.zB = false := by
            simp only [Snap.zB, b2, Bool.true_and, Bool.and_eq_false_iff, beq_eq_false_iff_ne]
            omega
          repeat (first | ((first | refine zd ?_ | refine zx ?_ | refine zk ?_ | refine zl ?_ | refine zr ?_); refine zq ?_) | refine zs ?_ | refine zh (by simp -implicitDefEqProofs (disch := (first | omega | (simp; done) | fail)) [if_pos, if_neg, wrap_i64, tmod_pos, tdiv_pos, Int.toNat_add, hy, hs1, p19, p20, p21, p22, c2, h0]; rfl) ?_ | refine zb ?_ | refine zo ?_ | refine zt ?_ | refine zf ?_)
          first | refine zy (.inr rfl) ?_ | refine zy (.inl rfl) ?_
          simp [sV, outB, Rec.bad, Rec.t, *]
        · have b3 : x.snap.zB = true := by
            simp only [Snap.zB, b2, Bool.true_and, Bool.and_eq_true, beq_iff_eq]
            omega
          repeat (first | ((first | refine zd ?_ | refine zx ?_ | refine zk ?_ | refine zl ?_ | refine zr ?_); refine zq ?_) | refine zs ?_ | refine zh (by simp -implicitDefEqProofs (disch := (first | omega | (simp; done) | fail)) [if_pos, if_neg, wrap_i64, tmod_pos, tdiv_pos, Int.toNat_add, hy, hs1, p19, p20, p21, p22, c2, h0]; rfl) ?_ | refine zb ?_ | refine zo ?_ | refine zt ?_ | refine zf ?_)
          first | refine zy (.inr rfl) ?_ | refine zy (.inl rfl) ?_
          simp [sV, outB, Rec.bad, Rec.t, *]
end Go.Proofs.Ytdoaglcnncapdaa.D
