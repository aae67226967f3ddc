import Derived.Test.YtdoaglcnncapdaaDH
/- Bytes as messages, the document's reader: snaps. -/
set_option linter.unusedVariables false
set_option linter.unusedSimpArgs false
set_option maxRecDepth 20000
namespace Go.Proofs.Ytdoaglcnncapdaa.D
open Go Go.Proofs.Ytdoaglcnncapdaa.V Go.Proofs.Ytdoaglcnncapdaa.N
def Snap.av' (x : Snap) : AV := .agg x.c
theorem u1_0 : (AV.list (([] : List (List UInt8)).map AV.str) .full).untok1 = .list [] .full := rfl
theorem u1_1 (x : List UInt8) (r : List (List UInt8)) (t : Tok) : (AV.list ((x :: r).map AV.str) t).untok1 = .list ((x :: r).map .str) .no := rfl
def nmV : List (List UInt8) → AV
  | [] => .list [] .full
  | x :: r => .list ((x :: r).map .str) .no
def Sess.fv (x : Sess) : AV := .agg [iv x.client, iv x.seq, iv x.reply.err, .str x.reply.value, iv x.reply.version, nmV x.reply.names]
theorem fv_uni (l : List Sess) : uni 6 (l.map Sess.fv) = true := uni_map fun _ => rfl
theorem fv_s : AV.strip ∘ Sess.fv = Sess.av := funext fun x => by
  obtain ⟨c, s, e, v, n, names⟩ := x
  cases names <;> simp [Sess.fv, Sess.av, Sess.c, Reply.c, nmV, str_s]
set_option maxHeartbeats 2000000 in
theorem isnap_ok : IRd 45 rdSnap Snap.av' := by
  rintro h rid B st hB ri
  refine acalls_of_awp Try.func45 rfl (by simp only [List.length_cons, List.length_nil]; decide) ?_
  simp only [params_cons, params_nil]
  obtain ⟨N, hN⟩ : ∃ N, h.length = N := ⟨_, rfl⟩
  refine awp_seq ?_
  refine zg ?_
  refine goes_done ?_
  (try simp only [vq, if_true, reduceIte, Nat.reduceEqDiff, reduceCtorEq])
  refine awp_hard (id := h.length) (by simp -implicitDefEqProofs; rfl) ?_
  simp -implicitDefEqProofs only [Slots.melt, AV.melt, Nat.add_left_cancel_iff, Nat.add_eq_left, Nat.left_eq_add, Nat.reduceEqDiff, reduceIte, Nat.succ_ne_self, Nat.one_ne_zero, Nat.zero_ne_one, List.set_append_right, List.set_append_left, Nat.sub_self, Nat.le_refl, Nat.add_sub_cancel_left, Nat.le_add_right, List.set_cons_zero, List.set_cons_succ]
  rw [hN]
  repeat (first | ((first | refine zd ?_ | refine zx ?_ | refine zk ?_ | refine zl ?_ | refine zr ?_); refine zq ?_) | refine zs ?_ | refine zh (by simp -implicitDefEqProofs (disch := (first | omega | (simp; done) | fail)) [if_pos, if_neg, wrap_i64, tmod_pos, tdiv_pos, Int.toNat_add, hN, getN hN, setN hN, getN0 hN, setN0 hN]; rfl) ?_ | refine zb ?_ | refine zo ?_ | refine zt ?_ | refine zf ?_)
  refine goes_callS (callable_of Try.func41) (by simp -implicitDefEqProofs (disch := (first | omega | (simp; done) | fail)) [if_pos, if_neg, wrap_i64, tmod_pos, tdiv_pos, Int.toNat_add] <;> first | rfl | omega) _ (inumi_ok.at_ hB ri) ?_
  rintro _ _ ⟨⟨x1, rfl, vx1⟩, h', rfl, hl', ri2⟩
  clear ri
  have ri := ri2
  replace hN := hl'.trans hN
  clear ri2 hl'
  refine goes_eq (by simp -implicitDefEqProofs (disch := (first | omega | (simp; done) | fail)) [if_pos, if_neg, wrap_i64, tmod_pos, tdiv_pos, Int.toNat_add, hN, getN hN, setN hN, getN0 hN, setN0 hN]; rfl) ?_
  repeat (first | ((first | refine zd ?_ | refine zx ?_ | refine zk ?_ | refine zl ?_ | refine zr ?_); refine zq ?_) | refine zs ?_ | refine zh (by simp -implicitDefEqProofs (disch := (first | omega | (simp; done) | fail)) [if_pos, if_neg, wrap_i64, tmod_pos, tdiv_pos, Int.toNat_add, hN, getN hN, setN hN, getN0 hN, setN0 hN]; rfl) ?_ | refine zb ?_ | refine zo ?_ | refine zt ?_ | refine zf ?_)
  refine goes_callS (callable_of Try.func65) (by simp -implicitDefEqProofs (disch := (first | omega | (simp; done) | fail)) [if_pos, if_neg, wrap_i64, tmod_pos, tdiv_pos, Int.toNat_add, nv] <;> first | rfl | omega) _ (ilist_ok.at_ hB ri) ?_
  rintro _ _ ⟨⟨n1, rfl, vn1⟩, h', rfl, hl', ri2⟩
  clear ri
  have ri := ri2
  replace hN := hl'.trans hN
  clear ri2 hl'
  refine goes_eq (by simp -implicitDefEqProofs (disch := (first | omega | (simp; done) | fail)) [if_pos, if_neg, wrap_i64, tmod_pos, tdiv_pos, Int.toNat_add, hN, getN hN, setN hN, getN0 hN, setN0 hN, nv]; rfl) ?_
  have vs0 := VS.nop.seq vx1
  generalize runT rdNum st = st1 at *
  clear vx1
  refine goes_done ?_
  repeat (first | ((first | refine zd ?_ | refine zx ?_ | refine zk ?_ | refine zl ?_ | refine zr ?_); refine zq ?_) | refine zs ?_ | refine zh (by simp -implicitDefEqProofs (disch := (first | omega | (simp; done) | fail)) [if_pos, if_neg, wrap_i64, tmod_pos, tdiv_pos, Int.toNat_add, hN, getN hN, setN hN, getN0 hN, setN0 hN]; rfl) ?_ | refine zb ?_ | refine zo ?_ | refine zt ?_ | refine zf ?_)
  refine awp_cut_block (fun st' => ∃ (i : Nat) (xs : List Int) (st2 : St) (h2 X : AHeap) (tok : Tok), i ≤ n1 ∧ (xs = [] → tok = .full) ∧ VS (rdN rdN1 i) (runT rdSize st1) xs st2 ∧ (i = n1 ∨ ∃ e, st2 = .error e) ∧ RI h rid B st2 h2 ∧ h2.length = N ∧ st'.le ⟨Try.f45.ntmps, [(1, .ref [.ptr rid 0] 0), (2, .ptr (N + 1) 0), (3, .ptr (N + 2) 0)], h2 ++ (.dead :: .cells [iv 0, .list [] .full, .list [] .full, .list [] .full] :: .cells [iv x1, .list (xs.map iv) tok, .list [] .full, .list [] .full] :: X)⟩) ?_ ?_
  · refine awp_loop (fun z st => ∃ (i : Nat) (xs : List Int) (st2 : St) (h2 X : AHeap) (tok : Tok), z = n1 - i ∧ i ≤ n1 ∧ xs.length = i ∧ (xs = [] → tok = .full) ∧ VS (rdN rdN1 i) (runT rdSize st1) xs st2 ∧ RI h rid B st2 h2 ∧ h2.length = N ∧ TokAt N 3 X 3 1 tok ∧ st.le ⟨Try.f45.ntmps, [(1, .ref [.ptr rid 0] 0), (2, .ptr (N + 1) 0), (3, .ptr (N + 2) 0), (4, .int .i64 (n1 : Nat)), (5, .int .i64 (i : Nat))], h2 ++ (.dead :: .cells [iv 0, .list [] .full, .list [] .full, .list [] .full] :: .cells [iv x1, .list (xs.map iv) tok, .list [] .full, .list [] .full] :: X)⟩) n1 ?_ ?_
    · exact ⟨0, [], _, h', [], .full, rfl, Nat.zero_le _, rfl, fun _ => rfl, VS.none _ _, ri, hN, .full, st_keep' (by simp []) (by simp [])⟩
    rintro z st ⟨i, xs, st2, h2, X, tok, rfl, hi, hxl, hft, va, ri2, hN2, ht, hle⟩
    refine awp_le hle ?_
    clear hle ri hN
    have ri := ri2
    have hN := hN2
    clear ri2 hN2
    by_cases hin : i = n1
    · subst hin
      repeat (first | ((first | refine zd ?_ | refine zx ?_ | refine zk ?_ | refine zl ?_ | refine zr ?_); refine zq ?_) | refine zs ?_ | refine zh (by simp -implicitDefEqProofs (disch := (first | omega | (simp; done) | fail)) [if_pos, if_neg, wrap_i64, tmod_pos, tdiv_pos, Int.toNat_add, hN, getN hN, setN hN, getN0 hN, setN0 hN]; rfl) ?_ | refine zb ?_ | refine zo ?_ | refine zt ?_ | refine zf ?_)
      exact ⟨i, xs, st2, h2, X, tok, Nat.le_refl _, hft, va, .inl rfl, ri, hN, st_keep' (by simp []) (by simp [])⟩
    have q1 : (i : Int) < (n1 : Int) := by omega
    obtain ⟨a, e, hg, ha, hs⟩ := ri.getl
    unfold rdr at hg
    rcases st2 with e' | l
    · obtain ⟨he, rfl⟩ := hs
      have q2 : ((e : Int) == 0) = false := by simp; omega
      repeat (first | ((first | refine zd ?_ | refine zx ?_ | refine zk ?_ | refine zl ?_ | refine zr ?_); refine zq ?_) | refine zs ?_ | refine zh (by simp -implicitDefEqProofs (disch := (first | omega | (simp; done) | fail)) [if_pos, if_neg, wrap_i64, tmod_pos, tdiv_pos, Int.toNat_add, hN, getN hN, setN hN, getN0 hN, setN0 hN, hg, q1, q2]; rfl) ?_ | refine zb ?_ | refine zo ?_ | refine zt ?_ | refine zf ?_)
      exact ⟨i, xs, _, h2, X, tok, hi, hft, va, .inr ⟨_, rfl⟩, ri, hN, st_keep' (by simp []) (by simp [])⟩
    obtain ⟨rfl, _⟩ := hs
    have hg : ∀ l : AHeap, (h2 ++ l)[rid]? = some (.cells [.str B, .int .i64 (a : Nat), .int .i64 0]) := hg
    repeat (first | ((first | refine zd ?_ | refine zx ?_ | refine zk ?_ | refine zl ?_ | refine zr ?_); refine zq ?_) | refine zs ?_ | refine zh (by simp -implicitDefEqProofs (disch := (first | omega | (simp; done) | fail)) [if_pos, if_neg, wrap_i64, tmod_pos, tdiv_pos, Int.toNat_add, hN, getN hN, setN hN, getN0 hN, setN0 hN, hg, q1]; rfl) ?_ | refine zb ?_ | refine zo ?_ | refine zt ?_ | refine zf ?_)
    clear hg
    have hu := iv_uni xs
    have hx1 := isz_le vn1 va.2
    have hx2 : (xs.length + 1) * 8 ≤ 140737488355328 := by omega
    have hx3 : xs.length ≤ 140737488355327 := by omega
    rcases ht with rfl | ⟨j, rfl, hj⟩
    · refine awp_draw (.q 0 (.q 1 (.q 3 (.two 2 4 (.a 4 (.a 5 (.a 6 (.q 7 (.q 8 (.a 9 (.done))))))) (.two 2 5 (.a 5 (.a 6 (.q 7 (.q 8 (.a 9 (.done)))))) (.a 2 (.a 6 (.q 7 (.q 8 (.a 9 (.done))))))))))) (by kernel_rfl) (by kernel_rfl) (tree_start (goesT_eq (by simp -implicitDefEqProofs (disch := (first | omega | (simp; done) | fail)) [if_pos, if_neg, wrap_i64, tmod_pos, tdiv_pos, Int.toNat_add, hN, getN hN, setN hN, getN0 hN, setN0 hN]; rfl) ?_))
      repeat' (first | (refine goesT_two (goesT_eq (by simp -implicitDefEqProofs (disch := (first | omega | (simp; done) | fail)) [if_pos, if_neg, wrap_i64, tmod_pos, tdiv_pos, Int.toNat_add, hN, getN hN, setN hN, getN0 hN, setN0 hN, hu, hx2, hx3]; rfl) ?_) (goesT_eq (by simp -implicitDefEqProofs (disch := (first | omega | (simp; done) | fail)) [if_pos, if_neg, wrap_i64, tmod_pos, tdiv_pos, Int.toNat_add, hN, getN hN, setN hN, getN0 hN, setN0 hN, hu, hx2, hx3]; rfl) ?_)) | (refine goesT_callS (callable_of Try.func41) (by simp -implicitDefEqProofs (disch := (first | omega | (simp; done) | fail)) [if_pos, if_neg, wrap_i64, tmod_pos, tdiv_pos, Int.toNat_add] <;> first | rfl | omega) _ (inumi_ok.at_ hB ri) ?_; rintro _ _ ⟨⟨x, rfl, vx⟩, h', rfl, hl', ri2⟩; clear ri; have ri := ri2; replace hN := hl'.trans hN; clear ri2 hl'; refine goesT_eq (by simp -implicitDefEqProofs (disch := (first | omega | (simp; done) | fail)) [if_pos, if_neg, wrap_i64, tmod_pos, tdiv_pos, Int.toNat_add, hN, getN hN, setN hN, getN0 hN, setN0 hN, hu, hx2, hx3]; rfl) ?_))
      all_goals
        refine goesT_done ?_
        (try simp only [vq, if_true, reduceIte, Nat.reduceEqDiff, reduceCtorEq])
        repeat (first | ((first | refine zd ?_ | refine zx ?_ | refine zk ?_ | refine zl ?_ | refine zr ?_); refine zq ?_) | refine zs ?_ | refine zg ?_ | refine zb ?_ | refine zo ?_ | refine zt ?_ | refine zf ?_)
        exact ⟨n1 - (i + 1), by omega, i + 1, xs ++ [x], _, h', X ++ [.tail 3 1], .own (N + (X.length + 3)), rfl, by omega, by simp [hxl], (fun h => by simp at h), va.next2 n1_nil ((VS.nop.seq vx).as _), ri, hN, .new (by simp), st_keep' (by simp []) (by simp [])⟩
    · refine awp_draw (.q 0 (.q 1 (.q 3 (.two 2 4 (.a 4 (.a 5 (.a 6 (.q 7 (.q 8 (.a 9 (.done))))))) (.two 2 5 (.a 5 (.a 6 (.q 7 (.q 8 (.a 9 (.done)))))) (.a 2 (.a 6 (.q 7 (.q 8 (.a 9 (.done))))))))))) (by kernel_rfl) (by kernel_rfl) (tree_start (goesT_eq (by simp -implicitDefEqProofs (disch := (first | omega | (simp; done) | fail)) [if_pos, if_neg, wrap_i64, tmod_pos, tdiv_pos, Int.toNat_add, hN, getN hN, setN hN, getN0 hN, setN0 hN]; rfl) ?_))
      repeat' (first | (refine goesT_two (goesT_eq (by simp -implicitDefEqProofs (disch := (first | omega | (simp; done) | fail)) [if_pos, if_neg, wrap_i64, tmod_pos, tdiv_pos, Int.toNat_add, hN, getN hN, setN hN, getN0 hN, setN0 hN, hj, hu, hx2, hx3]; rfl) ?_) (goesT_eq (by simp -implicitDefEqProofs (disch := (first | omega | (simp; done) | fail)) [if_pos, if_neg, wrap_i64, tmod_pos, tdiv_pos, Int.toNat_add, hN, getN hN, setN hN, getN0 hN, setN0 hN, hj, hu, hx2, hx3]; rfl) ?_)) | (refine goesT_callS (callable_of Try.func41) (by simp -implicitDefEqProofs (disch := (first | omega | (simp; done) | fail)) [if_pos, if_neg, wrap_i64, tmod_pos, tdiv_pos, Int.toNat_add] <;> first | rfl | omega) _ (inumi_ok.at_ hB ri) ?_; rintro _ _ ⟨⟨x, rfl, vx⟩, h', rfl, hl', ri2⟩; clear ri; have ri := ri2; replace hN := hl'.trans hN; clear ri2 hl'; refine goesT_eq (by simp -implicitDefEqProofs (disch := (first | omega | (simp; done) | fail)) [if_pos, if_neg, wrap_i64, tmod_pos, tdiv_pos, Int.toNat_add, hN, getN hN, setN hN, getN0 hN, setN0 hN, hj, hu, hx2, hx3]; rfl) ?_))
      all_goals
        refine goesT_done ?_
        (try simp only [vq, if_true, reduceIte, Nat.reduceEqDiff, reduceCtorEq])
        repeat (first | ((first | refine zd ?_ | refine zx ?_ | refine zk ?_ | refine zl ?_ | refine zr ?_); refine zq ?_) | refine zs ?_ | refine zg ?_ | refine zb ?_ | refine zo ?_ | refine zt ?_ | refine zf ?_)
        exact ⟨n1 - (i + 1), by omega, i + 1, xs ++ [x], _, h', X.set j .dead ++ [.tail 3 1], .own (N + (X.length + 3)), rfl, by omega, by simp [hxl], (fun h => by simp at h), va.next2 n1_nil ((VS.nop.seq vx).as _), ri, hN, .new (by simp), st_keep' (by simp []) (by simp [])⟩
  rintro st' ⟨i', nodes, sa, h2', X1, tok1, hi', hft', va', hie', ri2, hN2, hle⟩
  refine awp_le hle ?_
  clear hle ri hN
  have ri := ri2
  have hN := hN2
  clear ri2 hN2
  have vd1 := VS.done vn1 hi' va' hie'
  clear va' hie' vn1 hi'
  have vs1 := vs0.seq2 vd1
  clear vs0 vd1
  repeat (first | ((first | refine zd ?_ | refine zx ?_ | refine zk ?_ | refine zl ?_ | refine zr ?_); refine zq ?_) | refine zs ?_ | refine zh (by simp -implicitDefEqProofs (disch := (first | omega | (simp; done) | fail)) [if_pos, if_neg, wrap_i64, tmod_pos, tdiv_pos, Int.toNat_add, hN, getN hN, setN hN, getN0 hN, setN0 hN]; rfl) ?_ | refine zb ?_ | refine zo ?_ | refine zt ?_ | refine zf ?_)
  refine goes_callS (callable_of Try.func65) (by simp -implicitDefEqProofs (disch := (first | omega | (simp; done) | fail)) [if_pos, if_neg, wrap_i64, tmod_pos, tdiv_pos, Int.toNat_add, nv] <;> first | rfl | omega) _ (ilist_ok.at_ hB ri) ?_
  rintro _ _ ⟨⟨n2, rfl, vn2⟩, h', rfl, hl', ri2⟩
  clear ri
  have ri := ri2
  replace hN := hl'.trans hN
  clear ri2 hl'
  refine goes_eq (by simp -implicitDefEqProofs (disch := (first | omega | (simp; done) | fail)) [if_pos, if_neg, wrap_i64, tmod_pos, tdiv_pos, Int.toNat_add, hN, getN hN, setN hN, getN0 hN, setN0 hN, nv]; rfl) ?_
  refine goes_done ?_
  repeat (first | ((first | refine zd ?_ | refine zx ?_ | refine zk ?_ | refine zl ?_ | refine zr ?_); refine zq ?_) | refine zs ?_ | refine zh (by simp -implicitDefEqProofs (disch := (first | omega | (simp; done) | fail)) [if_pos, if_neg, wrap_i64, tmod_pos, tdiv_pos, Int.toNat_add, hN, getN hN, setN hN, getN0 hN, setN0 hN]; rfl) ?_ | refine zb ?_ | refine zo ?_ | refine zt ?_ | refine zf ?_)
  refine awp_cut_block (fun st' => ∃ (i : Nat) (xs : List Entry) (st2 : St) (h2 X : AHeap) (tok : Tok), i ≤ n2 ∧ (xs = [] → tok = .full) ∧ VS (rdN rdEntry i) (runT rdSize sa) xs st2 ∧ (i = n2 ∨ ∃ e, st2 = .error e) ∧ RI h rid B st2 h2 ∧ h2.length = N ∧ st'.le ⟨Try.f45.ntmps, [(1, .ref [.ptr rid 0] 0), (2, .ptr (N + 1) 0), (3, .ptr (N + 2) 0)], h2 ++ (.dead :: .cells [iv 0, .list [] .full, .list [] .full, .list [] .full] :: .cells [iv x1, .list (nodes.map iv) tok1, .list (xs.map Entry.av) tok, .list [] .full] :: X)⟩) ?_ ?_
  · refine awp_loop (fun z st => ∃ (i : Nat) (xs : List Entry) (st2 : St) (h2 X : AHeap) (tok : Tok), z = n2 - i ∧ i ≤ n2 ∧ xs.length = i ∧ (xs = [] → tok = .full) ∧ VS (rdN rdEntry i) (runT rdSize sa) xs st2 ∧ RI h rid B st2 h2 ∧ h2.length = N ∧ TokAt N 3 X 120 3 tok ∧ st.le ⟨Try.f45.ntmps, [(1, .ref [.ptr rid 0] 0), (2, .ptr (N + 1) 0), (3, .ptr (N + 2) 0), (4, .int .i64 (n2 : Nat)), (6, .int .i64 (i : Nat))], h2 ++ (.dead :: .cells [iv 0, .list [] .full, .list [] .full, .list [] .full] :: .cells [iv x1, .list (nodes.map iv) tok1, .list (xs.map Entry.av) tok, .list [] .full] :: X)⟩) n2 ?_ ?_
    · exact ⟨0, [], _, h', X1, .full, rfl, Nat.zero_le _, rfl, fun _ => rfl, VS.none _ _, ri, hN, .full, st_keep' (by simp []) (by simp [])⟩
    rintro z st ⟨i, xs, st2, h2, X, tok, rfl, hi, hxl, hft, va, ri2, hN2, ht, hle⟩
    refine awp_le hle ?_
    clear hle ri hN
    have ri := ri2
    have hN := hN2
    clear ri2 hN2
    by_cases hin : i = n2
    · subst hin
      repeat (first | ((first | refine zd ?_ | refine zx ?_ | refine zk ?_ | refine zl ?_ | refine zr ?_); refine zq ?_) | refine zs ?_ | refine zh (by simp -implicitDefEqProofs (disch := (first | omega | (simp; done) | fail)) [if_pos, if_neg, wrap_i64, tmod_pos, tdiv_pos, Int.toNat_add, hN, getN hN, setN hN, getN0 hN, setN0 hN]; rfl) ?_ | refine zb ?_ | refine zo ?_ | refine zt ?_ | refine zf ?_)
      exact ⟨i, xs, st2, h2, X, tok, Nat.le_refl _, hft, va, .inl rfl, ri, hN, st_keep' (by simp []) (by simp [])⟩
    have q1 : (i : Int) < (n2 : Int) := by omega
    obtain ⟨a, e, hg, ha, hs⟩ := ri.getl
    unfold rdr at hg
    rcases st2 with e' | l
    · obtain ⟨he, rfl⟩ := hs
      have q2 : ((e : Int) == 0) = false := by simp; omega
      repeat (first | ((first | refine zd ?_ | refine zx ?_ | refine zk ?_ | refine zl ?_ | refine zr ?_); refine zq ?_) | refine zs ?_ | refine zh (by simp -implicitDefEqProofs (disch := (first | omega | (simp; done) | fail)) [if_pos, if_neg, wrap_i64, tmod_pos, tdiv_pos, Int.toNat_add, hN, getN hN, setN hN, getN0 hN, setN0 hN, hg, q1, q2]; rfl) ?_ | refine zb ?_ | refine zo ?_ | refine zt ?_ | refine zf ?_)
      exact ⟨i, xs, _, h2, X, tok, hi, hft, va, .inr ⟨_, rfl⟩, ri, hN, st_keep' (by simp []) (by simp [])⟩
    obtain ⟨rfl, _⟩ := hs
    have hg : ∀ l : AHeap, (h2 ++ l)[rid]? = some (.cells [.str B, .int .i64 (a : Nat), .int .i64 0]) := hg
    repeat (first | ((first | refine zd ?_ | refine zx ?_ | refine zk ?_ | refine zl ?_ | refine zr ?_); refine zq ?_) | refine zs ?_ | refine zh (by simp -implicitDefEqProofs (disch := (first | omega | (simp; done) | fail)) [if_pos, if_neg, wrap_i64, tmod_pos, tdiv_pos, Int.toNat_add, hN, getN hN, setN hN, getN0 hN, setN0 hN, hg, q1]; rfl) ?_ | refine zb ?_ | refine zo ?_ | refine zt ?_ | refine zf ?_)
    clear hg
    have hu := entl_uni xs
    have hx1 := isz_le vn2 va.2
    have hx2 : (xs.length + 1) * 40 ≤ 140737488355328 := by omega
    have hx3 : xs.length ≤ 140737488355327 := by omega
    refine goes_callS (callable_of Try.func64) (by simp -implicitDefEqProofs (disch := (first | omega | (simp; done) | fail)) [if_pos, if_neg, wrap_i64, tmod_pos, tdiv_pos, Int.toNat_add] <;> first | rfl | omega) _ (itexti_ok.at_ hB ri) ?_
    rintro _ _ ⟨⟨p1, rfl, vp1⟩, h', rfl, hl', ri2⟩
    clear ri
    have ri := ri2
    replace hN := hl'.trans hN
    clear ri2 hl'
    refine goes_eq (by simp -implicitDefEqProofs (disch := (first | omega | (simp; done) | fail)) [if_pos, if_neg, wrap_i64, tmod_pos, tdiv_pos, Int.toNat_add, hN, getN hN, setN hN, getN0 hN, setN0 hN]; rfl) ?_
    repeat (first | ((first | refine zd ?_ | refine zx ?_ | refine zk ?_ | refine zl ?_ | refine zr ?_); refine zq ?_) | refine zs ?_ | refine zh (by simp -implicitDefEqProofs (disch := (first | omega | (simp; done) | fail)) [if_pos, if_neg, wrap_i64, tmod_pos, tdiv_pos, Int.toNat_add, hN, getN hN, setN hN, getN0 hN, setN0 hN]; rfl) ?_ | refine zb ?_ | refine zo ?_ | refine zt ?_ | refine zf ?_)
    refine goes_callS (callable_of Try.func64) (by simp -implicitDefEqProofs (disch := (first | omega | (simp; done) | fail)) [if_pos, if_neg, wrap_i64, tmod_pos, tdiv_pos, Int.toNat_add] <;> first | rfl | omega) _ (itexti_ok.at_ hB ri) ?_
    rintro _ _ ⟨⟨p2, rfl, vp2⟩, h', rfl, hl', ri2⟩
    clear ri
    have ri := ri2
    replace hN := hl'.trans hN
    clear ri2 hl'
    refine goes_eq (by simp -implicitDefEqProofs (disch := (first | omega | (simp; done) | fail)) [if_pos, if_neg, wrap_i64, tmod_pos, tdiv_pos, Int.toNat_add, hN, getN hN, setN hN, getN0 hN, setN0 hN]; rfl) ?_
    repeat (first | ((first | refine zd ?_ | refine zx ?_ | refine zk ?_ | refine zl ?_ | refine zr ?_); refine zq ?_) | refine zs ?_ | refine zh (by simp -implicitDefEqProofs (disch := (first | omega | (simp; done) | fail)) [if_pos, if_neg, wrap_i64, tmod_pos, tdiv_pos, Int.toNat_add, hN, getN hN, setN hN, getN0 hN, setN0 hN]; rfl) ?_ | refine zb ?_ | refine zo ?_ | refine zt ?_ | refine zf ?_)
    refine goes_callS (callable_of Try.func41) (by simp -implicitDefEqProofs (disch := (first | omega | (simp; done) | fail)) [if_pos, if_neg, wrap_i64, tmod_pos, tdiv_pos, Int.toNat_add] <;> first | rfl | omega) _ (inumi_ok.at_ hB ri) ?_
    rintro _ _ ⟨⟨p3, rfl, vp3⟩, h', rfl, hl', ri2⟩
    clear ri
    have ri := ri2
    replace hN := hl'.trans hN
    clear ri2 hl'
    refine goes_eq (by simp -implicitDefEqProofs (disch := (first | omega | (simp; done) | fail)) [if_pos, if_neg, wrap_i64, tmod_pos, tdiv_pos, Int.toNat_add, hN, getN hN, setN hN, getN0 hN, setN0 hN]; rfl) ?_
    have ve : VS rdEntry _ ⟨p1, p2, p3⟩ _ := (((VS.nop.seq vp1).seq vp2).seq vp3).as _
    have hv := va.next2 entry_nil ve
    rcases ht with rfl | ⟨j, rfl, hj⟩
    · repeat (first | ((first | refine zd ?_ | refine zx ?_ | refine zk ?_ | refine zl ?_ | refine zr ?_); refine zq ?_) | refine zs ?_ | refine zh (by simp -implicitDefEqProofs (disch := (first | omega | (simp; done) | fail)) [if_pos, if_neg, wrap_i64, tmod_pos, tdiv_pos, Int.toNat_add, hN, getN hN, setN hN, getN0 hN, setN0 hN, hu, hx2, hx3]; rfl) ?_ | refine zb ?_ | refine zo ?_ | refine zt ?_ | refine zf ?_)
      exact ⟨n2 - (i + 1), by omega, i + 1, xs ++ [⟨p1, p2, p3⟩], _, h', X ++ [.cells [.str p1, .str p2, iv p3], .tail 120 3], .own (N + (X.length + 4)), rfl, by omega, by simp [hxl], (fun h => by simp at h), hv, ri, hN, TokAt.new (j := X.length + 1) (by simp), st_keep' (by simp [Entry.av, Entry.c]) (by simp [Entry.av, Entry.c])⟩
    · have hjr : ∀ c, (X ++ c)[j]? = some (.tail 120 3) := fun c => by rw [List.getElem?_append_left (List.getElem?_eq_some_iff.1 hj).1]; exact hj
      have hjs : ∀ c v, (X ++ c).set j v = X.set j v ++ c := fun c v => List.set_append_left _ _ (List.getElem?_eq_some_iff.1 hj).1
      repeat (first | ((first | refine zd ?_ | refine zx ?_ | refine zk ?_ | refine zl ?_ | refine zr ?_); refine zq ?_) | refine zs ?_ | refine zh (by simp -implicitDefEqProofs (disch := (first | omega | (simp; done) | fail)) [if_pos, if_neg, wrap_i64, tmod_pos, tdiv_pos, Int.toNat_add, hN, getN hN, setN hN, getN0 hN, setN0 hN, hu, hx2, hx3, hjr, hjs]; rfl) ?_ | refine zb ?_ | refine zo ?_ | refine zt ?_ | refine zf ?_)
      exact ⟨n2 - (i + 1), by omega, i + 1, xs ++ [⟨p1, p2, p3⟩], _, h', X.set j .dead ++ [.cells [.str p1, .str p2, iv p3], .tail 120 3], .own (N + (X.length + 4)), rfl, by omega, by simp [hxl], (fun h => by simp at h), hv, ri, hN, TokAt.new (j := X.length + 1) (by simp), st_keep' (by simp [Entry.av, Entry.c]) (by simp [Entry.av, Entry.c])⟩
  rintro st' ⟨i', paths, sb, h2', X2, tok2, hi', hft', va', hie', ri2, hN2, hle⟩
  refine awp_le hle ?_
  clear hle ri hN
  have ri := ri2
  have hN := hN2
  clear ri2 hN2
  have vd2 := VS.done vn2 hi' va' hie'
  clear va' hie' vn2 hi'
  have vs2 := vs1.seq2 vd2
  clear vs1 vd2
  repeat (first | ((first | refine zd ?_ | refine zx ?_ | refine zk ?_ | refine zl ?_ | refine zr ?_); refine zq ?_) | refine zs ?_ | refine zh (by simp -implicitDefEqProofs (disch := (first | omega | (simp; done) | fail)) [if_pos, if_neg, wrap_i64, tmod_pos, tdiv_pos, Int.toNat_add, hN, getN hN, setN hN, getN0 hN, setN0 hN]; rfl) ?_ | refine zb ?_ | refine zo ?_ | refine zt ?_ | refine zf ?_)
  refine goes_callS (callable_of Try.func65) (by simp -implicitDefEqProofs (disch := (first | omega | (simp; done) | fail)) [if_pos, if_neg, wrap_i64, tmod_pos, tdiv_pos, Int.toNat_add, nv] <;> first | rfl | omega) _ (ilist_ok.at_ hB ri) ?_
  rintro _ _ ⟨⟨n3, rfl, vn3⟩, h', rfl, hl', ri2⟩
  clear ri
  have ri := ri2
  replace hN := hl'.trans hN
  clear ri2 hl'
  refine goes_eq (by simp -implicitDefEqProofs (disch := (first | omega | (simp; done) | fail)) [if_pos, if_neg, wrap_i64, tmod_pos, tdiv_pos, Int.toNat_add, hN, getN hN, setN hN, getN0 hN, setN0 hN, nv]; rfl) ?_
  refine goes_done ?_
  repeat (first | ((first | refine zd ?_ | refine zx ?_ | refine zk ?_ | refine zl ?_ | refine zr ?_); refine zq ?_) | refine zs ?_ | refine zh (by simp -implicitDefEqProofs (disch := (first | omega | (simp; done) | fail)) [if_pos, if_neg, wrap_i64, tmod_pos, tdiv_pos, Int.toNat_add, hN, getN hN, setN hN, getN0 hN, setN0 hN]; rfl) ?_ | refine zb ?_ | refine zo ?_ | refine zt ?_ | refine zf ?_)
  refine awp_cut_block (fun st' => ∃ (i : Nat) (xs : List Sess) (st2 : St) (h2 X : AHeap) (tok : Tok), i ≤ n3 ∧ (xs = [] → tok = .full) ∧ VS (rdN rdSess i) (runT rdSize sb) xs st2 ∧ (i = n3 ∨ ∃ e, st2 = .error e) ∧ RI h rid B st2 h2 ∧ h2.length = N ∧ st'.le ⟨Try.f45.ntmps, [(1, .ref [.ptr rid 0] 0), (2, .ptr (N + 1) 0), (3, .ptr (N + 2) 0)], h2 ++ (.dead :: .cells [iv 0, .list [] .full, .list [] .full, .list [] .full] :: .cells [iv x1, .list (nodes.map iv) tok1, .list (paths.map Entry.av) tok2, .list (xs.map Sess.fv) tok] :: X)⟩) ?_ ?_
  · refine awp_loop (fun z st => ∃ (i : Nat) (xs : List Sess) (st2 : St) (h2 X : AHeap) (tok : Tok), z = n3 - i ∧ i ≤ n3 ∧ xs.length = i ∧ (xs = [] → tok = .full) ∧ VS (rdN rdSess i) (runT rdSize sb) xs st2 ∧ RI h rid B st2 h2 ∧ h2.length = N ∧ TokAt N 3 X 125 6 tok ∧ st.le ⟨Try.f45.ntmps, [(1, .ref [.ptr rid 0] 0), (2, .ptr (N + 1) 0), (3, .ptr (N + 2) 0), (4, .int .i64 (n3 : Nat)), (8, .int .i64 (i : Nat))], h2 ++ (.dead :: .cells [iv 0, .list [] .full, .list [] .full, .list [] .full] :: .cells [iv x1, .list (nodes.map iv) tok1, .list (paths.map Entry.av) tok2, .list (xs.map Sess.fv) tok] :: X)⟩) n3 ?_ ?_
    · exact ⟨0, [], _, h', X2, .full, rfl, Nat.zero_le _, rfl, fun _ => rfl, VS.none _ _, ri, hN, .full, st_keep' (by simp []) (by simp [])⟩
    rintro z st ⟨i, xs, st2, h2, X, tok, rfl, hi, hxl, hft, va, ri2, hN2, ht, hle⟩
    refine awp_le hle ?_
    clear hle ri hN
    have ri := ri2
    have hN := hN2
    clear ri2 hN2
    by_cases hin : i = n3
    · subst hin
      repeat (first | ((first | refine zd ?_ | refine zx ?_ | refine zk ?_ | refine zl ?_ | refine zr ?_); refine zq ?_) | refine zs ?_ | refine zh (by simp -implicitDefEqProofs (disch := (first | omega | (simp; done) | fail)) [if_pos, if_neg, wrap_i64, tmod_pos, tdiv_pos, Int.toNat_add, hN, getN hN, setN hN, getN0 hN, setN0 hN]; rfl) ?_ | refine zb ?_ | refine zo ?_ | refine zt ?_ | refine zf ?_)
      exact ⟨i, xs, st2, h2, X, tok, Nat.le_refl _, hft, va, .inl rfl, ri, hN, st_keep' (by simp []) (by simp [])⟩
    have q1 : (i : Int) < (n3 : Int) := by omega
    obtain ⟨a, e, hg, ha, hs⟩ := ri.getl
    unfold rdr at hg
    rcases st2 with e' | l
    · obtain ⟨he, rfl⟩ := hs
      have q2 : ((e : Int) == 0) = false := by simp; omega
      repeat (first | ((first | refine zd ?_ | refine zx ?_ | refine zk ?_ | refine zl ?_ | refine zr ?_); refine zq ?_) | refine zs ?_ | refine zh (by simp -implicitDefEqProofs (disch := (first | omega | (simp; done) | fail)) [if_pos, if_neg, wrap_i64, tmod_pos, tdiv_pos, Int.toNat_add, hN, getN hN, setN hN, getN0 hN, setN0 hN, hg, q1, q2]; rfl) ?_ | refine zb ?_ | refine zo ?_ | refine zt ?_ | refine zf ?_)
      exact ⟨i, xs, _, h2, X, tok, hi, hft, va, .inr ⟨_, rfl⟩, ri, hN, st_keep' (by simp []) (by simp [])⟩
    obtain ⟨rfl, _⟩ := hs
    have hg : ∀ l : AHeap, (h2 ++ l)[rid]? = some (.cells [.str B, .int .i64 (a : Nat), .int .i64 0]) := hg
    repeat (first | ((first | refine zd ?_ | refine zx ?_ | refine zk ?_ | refine zl ?_ | refine zr ?_); refine zq ?_) | refine zs ?_ | refine zh (by simp -implicitDefEqProofs (disch := (first | omega | (simp; done) | fail)) [if_pos, if_neg, wrap_i64, tmod_pos, tdiv_pos, Int.toNat_add, hN, getN hN, setN hN, getN0 hN, setN0 hN, hg, q1]; rfl) ?_ | refine zb ?_ | refine zo ?_ | refine zt ?_ | refine zf ?_)
    clear hg
    have hu := fv_uni xs
    have hx1 := isz_le vn3 va.2
    have hx2 : (xs.length + 1) * 72 ≤ 140737488355328 := by omega
    have hx3 : xs.length ≤ 140737488355327 := by omega
    refine goes_callS (callable_of Try.func41) (by simp -implicitDefEqProofs (disch := (first | omega | (simp; done) | fail)) [if_pos, if_neg, wrap_i64, tmod_pos, tdiv_pos, Int.toNat_add] <;> first | rfl | omega) _ (inumi_ok.at_ hB ri) ?_
    rintro _ _ ⟨⟨s1, rfl, vs1⟩, h', rfl, hl', ri2⟩
    clear ri
    have ri := ri2
    replace hN := hl'.trans hN
    clear ri2 hl'
    refine goes_eq (by simp -implicitDefEqProofs (disch := (first | omega | (simp; done) | fail)) [if_pos, if_neg, wrap_i64, tmod_pos, tdiv_pos, Int.toNat_add, hN, getN hN, setN hN, getN0 hN, setN0 hN]; rfl) ?_
    repeat (first | ((first | refine zd ?_ | refine zx ?_ | refine zk ?_ | refine zl ?_ | refine zr ?_); refine zq ?_) | refine zs ?_ | refine zh (by simp -implicitDefEqProofs (disch := (first | omega | (simp; done) | fail)) [if_pos, if_neg, wrap_i64, tmod_pos, tdiv_pos, Int.toNat_add, hN, getN hN, setN hN, getN0 hN, setN0 hN]; rfl) ?_ | refine zb ?_ | refine zo ?_ | refine zt ?_ | refine zf ?_)
    refine goes_callS (callable_of Try.func41) (by simp -implicitDefEqProofs (disch := (first | omega | (simp; done) | fail)) [if_pos, if_neg, wrap_i64, tmod_pos, tdiv_pos, Int.toNat_add] <;> first | rfl | omega) _ (inumi_ok.at_ hB ri) ?_
    rintro _ _ ⟨⟨s2, rfl, vs2⟩, h', rfl, hl', ri2⟩
    clear ri
    have ri := ri2
    replace hN := hl'.trans hN
    clear ri2 hl'
    refine goes_eq (by simp -implicitDefEqProofs (disch := (first | omega | (simp; done) | fail)) [if_pos, if_neg, wrap_i64, tmod_pos, tdiv_pos, Int.toNat_add, hN, getN hN, setN hN, getN0 hN, setN0 hN]; rfl) ?_
    repeat (first | ((first | refine zd ?_ | refine zx ?_ | refine zk ?_ | refine zl ?_ | refine zr ?_); refine zq ?_) | refine zs ?_ | refine zh (by simp -implicitDefEqProofs (disch := (first | omega | (simp; done) | fail)) [if_pos, if_neg, wrap_i64, tmod_pos, tdiv_pos, Int.toNat_add, hN, getN hN, setN hN, getN0 hN, setN0 hN]; rfl) ?_ | refine zb ?_ | refine zo ?_ | refine zt ?_ | refine zf ?_)
    refine goes_callS (callable_of Try.func41) (by simp -implicitDefEqProofs (disch := (first | omega | (simp; done) | fail)) [if_pos, if_neg, wrap_i64, tmod_pos, tdiv_pos, Int.toNat_add] <;> first | rfl | omega) _ (inumi_ok.at_ hB ri) ?_
    rintro _ _ ⟨⟨s3, rfl, vs3⟩, h', rfl, hl', ri2⟩
    clear ri
    have ri := ri2
    replace hN := hl'.trans hN
    clear ri2 hl'
    refine goes_eq (by simp -implicitDefEqProofs (disch := (first | omega | (simp; done) | fail)) [if_pos, if_neg, wrap_i64, tmod_pos, tdiv_pos, Int.toNat_add, hN, getN hN, setN hN, getN0 hN, setN0 hN]; rfl) ?_
    repeat (first | ((first | refine zd ?_ | refine zx ?_ | refine zk ?_ | refine zl ?_ | refine zr ?_); refine zq ?_) | refine zs ?_ | refine zh (by simp -implicitDefEqProofs (disch := (first | omega | (simp; done) | fail)) [if_pos, if_neg, wrap_i64, tmod_pos, tdiv_pos, Int.toNat_add, hN, getN hN, setN hN, getN0 hN, setN0 hN]; rfl) ?_ | refine zb ?_ | refine zo ?_ | refine zt ?_ | refine zf ?_)
    refine goes_callS (callable_of Try.func64) (by simp -implicitDefEqProofs (disch := (first | omega | (simp; done) | fail)) [if_pos, if_neg, wrap_i64, tmod_pos, tdiv_pos, Int.toNat_add] <;> first | rfl | omega) _ (itexti_ok.at_ hB ri) ?_
    rintro _ _ ⟨⟨s4, rfl, vs4⟩, h', rfl, hl', ri2⟩
    clear ri
    have ri := ri2
    replace hN := hl'.trans hN
    clear ri2 hl'
    refine goes_eq (by simp -implicitDefEqProofs (disch := (first | omega | (simp; done) | fail)) [if_pos, if_neg, wrap_i64, tmod_pos, tdiv_pos, Int.toNat_add, hN, getN hN, setN hN, getN0 hN, setN0 hN]; rfl) ?_
    repeat (first | ((first | refine zd ?_ | refine zx ?_ | refine zk ?_ | refine zl ?_ | refine zr ?_); refine zq ?_) | refine zs ?_ | refine zh (by simp -implicitDefEqProofs (disch := (first | omega | (simp; done) | fail)) [if_pos, if_neg, wrap_i64, tmod_pos, tdiv_pos, Int.toNat_add, hN, getN hN, setN hN, getN0 hN, setN0 hN]; rfl) ?_ | refine zb ?_ | refine zo ?_ | refine zt ?_ | refine zf ?_)
    refine goes_callS (callable_of Try.func41) (by simp -implicitDefEqProofs (disch := (first | omega | (simp; done) | fail)) [if_pos, if_neg, wrap_i64, tmod_pos, tdiv_pos, Int.toNat_add] <;> first | rfl | omega) _ (inumi_ok.at_ hB ri) ?_
    rintro _ _ ⟨⟨s5, rfl, vs5⟩, h', rfl, hl', ri2⟩
    clear ri
    have ri := ri2
    replace hN := hl'.trans hN
    clear ri2 hl'
    refine goes_eq (by simp -implicitDefEqProofs (disch := (first | omega | (simp; done) | fail)) [if_pos, if_neg, wrap_i64, tmod_pos, tdiv_pos, Int.toNat_add, hN, getN hN, setN hN, getN0 hN, setN0 hN]; rfl) ?_
    repeat (first | ((first | refine zd ?_ | refine zx ?_ | refine zk ?_ | refine zl ?_ | refine zr ?_); refine zq ?_) | refine zs ?_ | refine zh (by simp -implicitDefEqProofs (disch := (first | omega | (simp; done) | fail)) [if_pos, if_neg, wrap_i64, tmod_pos, tdiv_pos, Int.toNat_add, hN, getN hN, setN hN, getN0 hN, setN0 hN]; rfl) ?_ | refine zb ?_ | refine zo ?_ | refine zt ?_ | refine zf ?_)
    refine goes_callS (callable_of Try.func65) (by simp -implicitDefEqProofs (disch := (first | omega | (simp; done) | fail)) [if_pos, if_neg, wrap_i64, tmod_pos, tdiv_pos, Int.toNat_add, nv] <;> first | rfl | omega) _ (ilist_ok.at_ hB ri) ?_
    rintro _ _ ⟨⟨m, rfl, vm⟩, h', rfl, hl', ri2⟩
    clear ri
    have ri := ri2
    replace hN := hl'.trans hN
    clear ri2 hl'
    refine goes_eq (by simp -implicitDefEqProofs (disch := (first | omega | (simp; done) | fail)) [if_pos, if_neg, wrap_i64, tmod_pos, tdiv_pos, Int.toNat_add, hN, getN hN, setN hN, getN0 hN, setN0 hN, nv]; rfl) ?_
    have vq := ((VS.nop.seq vs3).seq vs4).seq vs5
    generalize hsc : runT rdNum (runT rdText (runT rdNum (runT rdNum (runT rdNum (.ok l))))) = sc at *
    have riO := ri
    have hNO := hN
    obtain ⟨XX, hXX⟩ : ∃ XX : AHeap, XX = .dead :: .cells [iv 0, .list [] .full, .list [] .full, .list [] .full] :: .cells [iv x1, .list (nodes.map iv) tok1, .list (paths.map Entry.av) tok2, .list (xs.map Sess.fv) tok] :: X := ⟨_, rfl⟩
    obtain ⟨h', hP⟩ : ∃ P, P = h' ++ XX := ⟨_, rfl⟩
    have hPl : h'.length = N + (X.length + 1 + 1 + 1) := by rw [hP, hXX]; simp [hN]
    obtain ⟨M, hM⟩ : ∃ M, M = N + (X.length + 1 + 1 + 1) := ⟨_, rfl⟩
    rw [← hM] at hPl ⊢
    simp only [← List.cons_append, ← List.append_assoc]
    rw [← hXX, ← hP]
    have ri : RI h' rid B (runT rdSize sc) h' := by rw [hP]; exact ri.now _
    have hN := hPl
    clear hPl
    obtain ⟨io, hio⟩ : ∃ io, io = i := ⟨_, rfl⟩
    rw [← hio]
    refine goes_done ?_
    repeat (first | ((first | refine zd ?_ | refine zx ?_ | refine zk ?_ | refine zl ?_ | refine zr ?_); refine zq ?_) | refine zs ?_ | refine zh (by simp -implicitDefEqProofs (disch := (first | omega | (simp; done) | fail)) [if_pos, if_neg, wrap_i64, tmod_pos, tdiv_pos, Int.toNat_add, hN, getN hN, setN hN, getN0 hN, setN0 hN]; rfl) ?_ | refine zb ?_ | refine zo ?_ | refine zt ?_ | refine zf ?_)
    refine awp_cut_block (fun st' => ∃ (i : Nat) (xs : List (List UInt8)) (st2 : St) (h2 X : AHeap) (tok : Tok), i ≤ m ∧ (xs = [] → tok = .full) ∧ VS (rdN rdT1 i) (runT rdSize sc) xs st2 ∧ (i = m ∨ ∃ e, st2 = .error e) ∧ RI h' rid B st2 h2 ∧ h2.length = M ∧ st'.le ⟨Try.f45.ntmps, [(1, .ref [.ptr rid 0] 0), (2, .ptr (N + 1) 0), (3, .ptr (N + 2) 0), (4, .int .i64 (n3 : Nat)), (8, .int .i64 (io : Nat)), (9, .ptr M 0)], h2 ++ (.cells [iv s1, iv s2, iv s3, .str s4, iv s5, .list (xs.map AV.str) tok] :: X)⟩) ?_ ?_
    · refine awp_loop (fun z st => ∃ (i : Nat) (xs : List (List UInt8)) (st2 : St) (h2 X : AHeap) (tok : Tok), z = m - i ∧ i ≤ m ∧ xs.length = i ∧ (xs = [] → tok = .full) ∧ VS (rdN rdT1 i) (runT rdSize sc) xs st2 ∧ RI h' rid B st2 h2 ∧ h2.length = M ∧ TokAt M 1 X 9 1 tok ∧ st.le ⟨Try.f45.ntmps, [(1, .ref [.ptr rid 0] 0), (2, .ptr (N + 1) 0), (3, .ptr (N + 2) 0), (4, .int .i64 (n3 : Nat)), (8, .int .i64 (io : Nat)), (9, .ptr M 0), (10, .int .i64 (m : Nat)), (11, .int .i64 (i : Nat))], h2 ++ (.cells [iv s1, iv s2, iv s3, .str s4, iv s5, .list (xs.map AV.str) tok] :: X)⟩) m ?_ ?_
      · exact ⟨0, [], _, h', [], .full, rfl, Nat.zero_le _, rfl, fun _ => rfl, VS.none _ _, ri, hN, .full, st_keep' (by simp []) (by simp [])⟩
      rintro z st ⟨i, xs, st2, h2, X, tok, rfl, hi, hxl, hft, va, ri2, hN2, ht, hle⟩
      refine awp_le hle ?_
      clear hle ri hN
      have ri := ri2
      have hN := hN2
      clear ri2 hN2
      by_cases hin : i = m
      · subst hin
        repeat (first | ((first | refine zd ?_ | refine zx ?_ | refine zk ?_ | refine zl ?_ | refine zr ?_); refine zq ?_) | refine zs ?_ | refine zh (by simp -implicitDefEqProofs (disch := (first | omega | (simp; done) | fail)) [if_pos, if_neg, wrap_i64, tmod_pos, tdiv_pos, Int.toNat_add, hN, getN hN, setN hN, getN0 hN, setN0 hN]; rfl) ?_ | refine zb ?_ | refine zo ?_ | refine zt ?_ | refine zf ?_)
        exact ⟨i, xs, st2, h2, X, tok, Nat.le_refl _, hft, va, .inl rfl, ri, hN, st_keep' (by simp []) (by simp [])⟩
      have q1 : (i : Int) < (m : Int) := by omega
      obtain ⟨a, e, hg, ha, hs⟩ := ri.getl
      unfold rdr at hg
      rcases st2 with e' | l
      · obtain ⟨he, rfl⟩ := hs
        have q2 : ((e : Int) == 0) = false := by simp; omega
        repeat (first | ((first | refine zd ?_ | refine zx ?_ | refine zk ?_ | refine zl ?_ | refine zr ?_); refine zq ?_) | refine zs ?_ | refine zh (by simp -implicitDefEqProofs (disch := (first | omega | (simp; done) | fail)) [if_pos, if_neg, wrap_i64, tmod_pos, tdiv_pos, Int.toNat_add, hN, getN hN, setN hN, getN0 hN, setN0 hN, hg, q1, q2]; rfl) ?_ | refine zb ?_ | refine zo ?_ | refine zt ?_ | refine zf ?_)
        exact ⟨i, xs, _, h2, X, tok, hi, hft, va, .inr ⟨_, rfl⟩, ri, hN, st_keep' (by simp []) (by simp [])⟩
      obtain ⟨rfl, _⟩ := hs
      have hg : ∀ l : AHeap, (h2 ++ l)[rid]? = some (.cells [.str B, .int .i64 (a : Nat), .int .i64 0]) := hg
      repeat (first | ((first | refine zd ?_ | refine zx ?_ | refine zk ?_ | refine zl ?_ | refine zr ?_); refine zq ?_) | refine zs ?_ | refine zh (by simp -implicitDefEqProofs (disch := (first | omega | (simp; done) | fail)) [if_pos, if_neg, wrap_i64, tmod_pos, tdiv_pos, Int.toNat_add, hN, getN hN, setN hN, getN0 hN, setN0 hN, hg, q1]; rfl) ?_ | refine zb ?_ | refine zo ?_ | refine zt ?_ | refine zf ?_)
      clear hg
      have hu := str_uni xs
      have hx1 := isz_le vm va.2
      have hx2 : (xs.length + 1) * 16 ≤ 140737488355328 := by omega
      have hx3 : xs.length ≤ 140737488355327 := by omega
      rcases ht with rfl | ⟨j, rfl, hj⟩
      · refine awp_draw (.q 0 (.q 1 (.q 3 (.two 2 4 (.a 4 (.a 5 (.a 6 (.q 7 (.q 8 (.a 9 (.done))))))) (.two 2 5 (.a 5 (.a 6 (.q 7 (.q 8 (.a 9 (.done)))))) (.a 2 (.a 6 (.q 7 (.q 8 (.a 9 (.done))))))))))) (by kernel_rfl) (by kernel_rfl) (tree_start (goesT_eq (by simp -implicitDefEqProofs (disch := (first | omega | (simp; done) | fail)) [if_pos, if_neg, wrap_i64, tmod_pos, tdiv_pos, Int.toNat_add, hN, getN hN, setN hN, getN0 hN, setN0 hN]; rfl) ?_))
        repeat' (first | (refine goesT_two (goesT_eq (by simp -implicitDefEqProofs (disch := (first | omega | (simp; done) | fail)) [if_pos, if_neg, wrap_i64, tmod_pos, tdiv_pos, Int.toNat_add, hN, getN hN, setN hN, getN0 hN, setN0 hN, hu, hx2, hx3]; rfl) ?_) (goesT_eq (by simp -implicitDefEqProofs (disch := (first | omega | (simp; done) | fail)) [if_pos, if_neg, wrap_i64, tmod_pos, tdiv_pos, Int.toNat_add, hN, getN hN, setN hN, getN0 hN, setN0 hN, hu, hx2, hx3]; rfl) ?_)) | (refine goesT_callS (callable_of Try.func64) (by simp -implicitDefEqProofs (disch := (first | omega | (simp; done) | fail)) [if_pos, if_neg, wrap_i64, tmod_pos, tdiv_pos, Int.toNat_add] <;> first | rfl | omega) _ (itexti_ok.at_ hB ri) ?_; rintro _ _ ⟨⟨x, rfl, vx⟩, h', rfl, hl', ri2⟩; clear ri; have ri := ri2; replace hN := hl'.trans hN; clear ri2 hl'; refine goesT_eq (by simp -implicitDefEqProofs (disch := (first | omega | (simp; done) | fail)) [if_pos, if_neg, wrap_i64, tmod_pos, tdiv_pos, Int.toNat_add, hN, getN hN, setN hN, getN0 hN, setN0 hN, hu, hx2, hx3]; rfl) ?_))
        all_goals
          refine goesT_done ?_
          (try simp only [vq, if_true, reduceIte, Nat.reduceEqDiff, reduceCtorEq])
          repeat (first | ((first | refine zd ?_ | refine zx ?_ | refine zk ?_ | refine zl ?_ | refine zr ?_); refine zq ?_) | refine zs ?_ | refine zg ?_ | refine zb ?_ | refine zo ?_ | refine zt ?_ | refine zf ?_)
          exact ⟨m - (i + 1), by omega, i + 1, xs ++ [x], _, h', X ++ [.tail 9 1], .own (M + (X.length + 1)), rfl, by omega, by simp [hxl], (fun h => by simp at h), va.next2 t1_nil ((VS.nop.seq vx).as _), ri, hN, .new (by simp), st_keep' (by simp []) (by simp [])⟩
      · refine awp_draw (.q 0 (.q 1 (.q 3 (.two 2 4 (.a 4 (.a 5 (.a 6 (.q 7 (.q 8 (.a 9 (.done))))))) (.two 2 5 (.a 5 (.a 6 (.q 7 (.q 8 (.a 9 (.done)))))) (.a 2 (.a 6 (.q 7 (.q 8 (.a 9 (.done))))))))))) (by kernel_rfl) (by kernel_rfl) (tree_start (goesT_eq (by simp -implicitDefEqProofs (disch := (first | omega | (simp; done) | fail)) [if_pos, if_neg, wrap_i64, tmod_pos, tdiv_pos, Int.toNat_add, hN, getN hN, setN hN, getN0 hN, setN0 hN]; rfl) ?_))
        repeat' (first | (refine goesT_two (goesT_eq (by simp -implicitDefEqProofs (disch := (first | omega | (simp; done) | fail)) [if_pos, if_neg, wrap_i64, tmod_pos, tdiv_pos, Int.toNat_add, hN, getN hN, setN hN, getN0 hN, setN0 hN, hj, hu, hx2, hx3]; rfl) ?_) (goesT_eq (by simp -implicitDefEqProofs (disch := (first | omega | (simp; done) | fail)) [if_pos, if_neg, wrap_i64, tmod_pos, tdiv_pos, Int.toNat_add, hN, getN hN, setN hN, getN0 hN, setN0 hN, hj, hu, hx2, hx3]; rfl) ?_)) | (refine goesT_callS (callable_of Try.func64) (by simp -implicitDefEqProofs (disch := (first | omega | (simp; done) | fail)) [if_pos, if_neg, wrap_i64, tmod_pos, tdiv_pos, Int.toNat_add] <;> first | rfl | omega) _ (itexti_ok.at_ hB ri) ?_; rintro _ _ ⟨⟨x, rfl, vx⟩, h', rfl, hl', ri2⟩; clear ri; have ri := ri2; replace hN := hl'.trans hN; clear ri2 hl'; refine goesT_eq (by simp -implicitDefEqProofs (disch := (first | omega | (simp; done) | fail)) [if_pos, if_neg, wrap_i64, tmod_pos, tdiv_pos, Int.toNat_add, hN, getN hN, setN hN, getN0 hN, setN0 hN, hj, hu, hx2, hx3]; rfl) ?_))
        all_goals
          refine goesT_done ?_
          (try simp only [vq, if_true, reduceIte, Nat.reduceEqDiff, reduceCtorEq])
          repeat (first | ((first | refine zd ?_ | refine zx ?_ | refine zk ?_ | refine zl ?_ | refine zr ?_); refine zq ?_) | refine zs ?_ | refine zg ?_ | refine zb ?_ | refine zo ?_ | refine zt ?_ | refine zf ?_)
          exact ⟨m - (i + 1), by omega, i + 1, xs ++ [x], _, h', X.set j .dead ++ [.tail 9 1], .own (M + (X.length + 1)), rfl, by omega, by simp [hxl], (fun h => by simp at h), va.next2 t1_nil ((VS.nop.seq vx).as _), ri, hN, .new (by simp), st_keep' (by simp []) (by simp [])⟩
    rintro st' ⟨i', names, sd, h2', Y, tokn, hi', hft', va', hie', ri2, hN2, hle⟩
    refine awp_le hle ?_
    clear hle ri hN
    have ri := ri2
    have hN := hN2
    clear ri2 hN2
    have vdn := VS.done vm hi' va' hie'
    clear va' hie' vm hi'
    have vr : VS rdReply _ ⟨s3, s4, s5, names⟩ _ := (vq.seq2 vdn).as _
    have ve : VS rdSess _ ⟨s1, s2, ⟨s3, s4, s5, names⟩⟩ _ := (((VS.nop.seq vs1).seq vs2).seq2 vr).as _
    have hv := va.next2 sess_nil ve
    clear hN
    obtain ⟨h3, rfl, hl3, ri3⟩ := riO.step (hP ▸ ri)
    have hN : h3.length = N := hl3.trans hNO
    clear ri
    have ri := ri3
    clear ri3 riO hNO hl3 va vq ve vr vdn vs1 vs2 vs3 vs4 vs5
    subst hio
    subst hM
    subst hXX
    simp only [List.append_assoc, List.cons_append]
    rcases names with _ | ⟨na, nr⟩
    · obtain rfl := hft' rfl
      rcases ht with rfl | ⟨j, rfl, hj⟩
      · repeat (first | ((first | refine zd ?_ | refine zx ?_ | refine zk ?_ | refine zl ?_ | refine zr ?_); refine zq ?_) | refine zs ?_ | refine zh (by simp -implicitDefEqProofs (disch := (first | omega | (simp; done) | fail)) [if_pos, if_neg, wrap_i64, tmod_pos, tdiv_pos, Int.toNat_add, hN, getN hN, setN hN, getN0 hN, setN0 hN, hu, hx2, hx3]; rfl) ?_ | refine zb ?_ | refine zo ?_ | refine zt ?_ | refine zf ?_)
        exact ⟨n3 - (io + 1), by omega, io + 1, xs ++ [⟨s1, s2, ⟨s3, s4, s5, []⟩⟩], _, h3, X ++ .cells [iv s1, iv s2, iv s3, .str s4, iv s5, .list (([] : List (List UInt8)).map .str) .full] :: (Y ++ [.tail 125 6]), .own (N + (X.length + (Y.length + 1) + 3)), rfl, by omega, by simp [hxl], (fun h => by simp at h), hv, ri, hN, TokAt.new (j := X.length + (Y.length + 1)) (by simp), st_keep' (by simp [Sess.fv, nmV]) (by simp [Sess.fv, nmV])⟩
      · have hjr : ∀ c, (X ++ c)[j]? = some (.tail 125 6) := fun c => by rw [List.getElem?_append_left (List.getElem?_eq_some_iff.1 hj).1]; exact hj
        have hjs : ∀ c v, (X ++ c).set j v = X.set j v ++ c := fun c v => List.set_append_left _ _ (List.getElem?_eq_some_iff.1 hj).1
        repeat (first | ((first | refine zd ?_ | refine zx ?_ | refine zk ?_ | refine zl ?_ | refine zr ?_); refine zq ?_) | refine zs ?_ | refine zh (by simp -implicitDefEqProofs (disch := (first | omega | (simp; done) | fail)) [if_pos, if_neg, wrap_i64, tmod_pos, tdiv_pos, Int.toNat_add, hN, getN hN, setN hN, getN0 hN, setN0 hN, hu, hx2, hx3, hjr, hjs]; rfl) ?_ | refine zb ?_ | refine zo ?_ | refine zt ?_ | refine zf ?_)
        exact ⟨n3 - (io + 1), by omega, io + 1, xs ++ [⟨s1, s2, ⟨s3, s4, s5, []⟩⟩], _, h3, X.set j .dead ++ .cells [iv s1, iv s2, iv s3, .str s4, iv s5, .list (([] : List (List UInt8)).map .str) .full] :: (Y ++ [.tail 125 6]), .own (N + (X.length + (Y.length + 1) + 3)), rfl, by omega, by simp [hxl], (fun h => by simp at h), hv, ri, hN, TokAt.new (j := X.length + (Y.length + 1)) (by simp), st_keep' (by simp [Sess.fv, nmV]) (by simp [Sess.fv, nmV])⟩
    · rcases ht with rfl | ⟨j, rfl, hj⟩
      · repeat (first | ((first | refine zd ?_ | refine zx ?_ | refine zk ?_ | refine zl ?_ | refine zr ?_); refine zq ?_) | refine zs ?_ | refine zh (by simp -implicitDefEqProofs (disch := (first | omega | (simp; done) | fail)) [if_pos, if_neg, wrap_i64, tmod_pos, tdiv_pos, Int.toNat_add, hN, getN hN, setN hN, getN0 hN, setN0 hN, hu, hx2, hx3]; rfl) ?_ | refine zb ?_ | refine zo ?_ | refine zt ?_ | refine zf ?_)
        exact ⟨n3 - (io + 1), by omega, io + 1, xs ++ [⟨s1, s2, ⟨s3, s4, s5, na :: nr⟩⟩], _, h3, X ++ .cells [iv s1, iv s2, iv s3, .str s4, iv s5, .list ((na :: nr).map .str) tokn] :: (Y ++ [.tail 125 6]), .own (N + (X.length + (Y.length + 1) + 3)), rfl, by omega, by simp [hxl], (fun h => by simp at h), hv, ri, hN, TokAt.new (j := X.length + (Y.length + 1)) (by simp), st_keep' (by simp [Sess.fv, nmV]) (by simp [Sess.fv, nmV])⟩
      · have hjr : ∀ c, (X ++ c)[j]? = some (.tail 125 6) := fun c => by rw [List.getElem?_append_left (List.getElem?_eq_some_iff.1 hj).1]; exact hj
        have hjs : ∀ c v, (X ++ c).set j v = X.set j v ++ c := fun c v => List.set_append_left _ _ (List.getElem?_eq_some_iff.1 hj).1
        repeat (first | ((first | refine zd ?_ | refine zx ?_ | refine zk ?_ | refine zl ?_ | refine zr ?_); refine zq ?_) | refine zs ?_ | refine zh (by simp -implicitDefEqProofs (disch := (first | omega | (simp; done) | fail)) [if_pos, if_neg, wrap_i64, tmod_pos, tdiv_pos, Int.toNat_add, hN, getN hN, setN hN, getN0 hN, setN0 hN, hu, hx2, hx3, hjr, hjs]; rfl) ?_ | refine zb ?_ | refine zo ?_ | refine zt ?_ | refine zf ?_)
        exact ⟨n3 - (io + 1), by omega, io + 1, xs ++ [⟨s1, s2, ⟨s3, s4, s5, na :: nr⟩⟩], _, h3, X.set j .dead ++ .cells [iv s1, iv s2, iv s3, .str s4, iv s5, .list ((na :: nr).map .str) tokn] :: (Y ++ [.tail 125 6]), .own (N + (X.length + (Y.length + 1) + 3)), rfl, by omega, by simp [hxl], (fun h => by simp at h), hv, ri, hN, TokAt.new (j := X.length + (Y.length + 1)) (by simp), st_keep' (by simp [Sess.fv, nmV]) (by simp [Sess.fv, nmV])⟩
  rintro st' ⟨i', sess, sd, h2', X3, tok3, hi', hft', va', hie', ri2, hN2, hle⟩
  refine awp_le hle ?_
  clear hle ri hN
  have ri := ri2
  have hN := hN2
  clear ri2 hN2
  have vd3 := VS.done vn3 hi' va' hie'
  clear va' hie' vn3 hi'
  have vs : VS rdSnap st ⟨x1, nodes, paths, sess⟩ sd := (vs2.seq2 vd3).as _
  repeat (first | ((first | refine zd ?_ | refine zx ?_ | refine zk ?_ | refine zl ?_ | refine zr ?_); refine zq ?_) | refine zs ?_ | refine zh (by simp -implicitDefEqProofs (disch := (first | omega | (simp; done) | fail)) [if_pos, if_neg, wrap_i64, tmod_pos, tdiv_pos, Int.toNat_add, hN, getN hN, setN hN, getN0 hN, setN0 hN]; rfl) ?_ | refine zb ?_ | refine zo ?_ | refine zt ?_ | refine zf ?_)
  first | refine body_ri ri (.inr rfl) (by simp -implicitDefEqProofs [hN, getN hN, setN hN, getN0 hN, setN0 hN, fv_s]; rfl) (by simp -implicitDefEqProofs [hN, getN hN, setN hN, getN0 hN, setN0 hN, fv_s]; rfl) (by simp) ?_ | refine body_ri ri (.inl rfl) (by simp -implicitDefEqProofs [hN, getN hN, setN hN, getN0 hN, setN0 hN, fv_s]; rfl) (by simp -implicitDefEqProofs [hN, getN hN, setN hN, getN0 hN, setN0 hN, fv_s]; rfl) (by simp) ?_
  exact ⟨⟨_, rfl, vs.1⟩, by rw [vs.2]; exact ri⟩
end Go.Proofs.Ytdoaglcnncapdaa.D

/- Bytes as messages, the document's reader: messages. -/
set_option linter.unusedVariables false
set_option linter.unusedSimpArgs false
set_option maxRecDepth 20000
namespace Go.Proofs.Ytdoaglcnncapdaa.D
open Go Go.Proofs.Ytdoaglcnncapdaa.V Go.Proofs.Ytdoaglcnncapdaa.N
theorem whole_end {α : Type} (f : Spec α) (d : α) (l : List UInt8) (nz : ∀ l, f l ≠ .error 0) : ((whole f d l).2 : Int) = endE (runT f (.ok l)) ∧ ((whole f d l).2 ≠ 0 → (whole f d l).1 = d) ∧ ((whole f d l).2 = 0 → ∃ p, f l = .ok p ∧ (whole f d l).1 = p.1) := by
  unfold whole
  cases hf : f l with
  | error e =>
    rw [run_err hf]
    exact ⟨rfl, fun _ => rfl, fun h => by simp only at h; subst h; exact absurd hf (nz l)⟩
  | ok p =>
    rw [run_ok hf]
    by_cases hp : p.2 = []
    · exact ⟨by simp [hp, endE], by simp [hp], fun _ => ⟨p, rfl, by simp [hp]⟩⟩
    · exact ⟨by simp [hp, endE], fun _ => by simp [hp], by simp [hp]⟩
theorem iofmsg_ok (b : List UInt8) (hB : b.length ≤ 100000) (h : AHeap) : ACalls Try.prog 18 [.str b] h fun r h' => r = .tuple [.agg (whole rdMsg .zero b).1.c, .int .i64 ((whole rdMsg .zero b).2 : Nat)] ∧ h' = h := by
  refine acalls_of_awp Try.func18 rfl (by simp only [List.length_cons, List.length_nil]; decide) ?_
  simp only [params_cons, params_nil]
  refine awp_seq ?_
  refine zg ?_
  refine goes_done ?_
  (try simp only [vq, if_true, reduceIte, Nat.reduceEqDiff, reduceCtorEq])
  refine awp_seq ?_
  refine zg ?_
  refine goes_done ?_
  (try simp only [vq, if_true, reduceIte, Nat.reduceEqDiff, reduceCtorEq])
  refine awp_hard (id := h.length + 2) (by simp -implicitDefEqProofs; rfl) ?_
  simp -implicitDefEqProofs only [Slots.melt, AV.melt, Nat.add_left_cancel_iff, Nat.add_eq_left, Nat.left_eq_add, Nat.reduceEqDiff, reduceIte, Nat.succ_ne_self, Nat.one_ne_zero, Nat.zero_ne_one, List.set_append_right, List.set_append_left, Nat.sub_self, Nat.le_refl, Nat.add_sub_cancel_left, Nat.le_add_right, List.set_cons_zero, List.set_cons_succ]
  refine awp_seq ?_
  refine zg ?_
  refine goes_done ?_
  (try simp only [vq, if_true, reduceIte, Nat.reduceEqDiff, reduceCtorEq])
  rw [show ∀ (a b c d : AObj), h ++ [a, b, c, d] = (h ++ [a, b]) ++ [c, d] from fun a b c d => by simp]
  obtain ⟨h1, hh1⟩ : ∃ h1, h1 = h ++ [.cells Msg.z, .cells [.str b, iv 0, iv 0]] := ⟨_, rfl⟩
  unfold Msg.z at hh1
  rw [← hh1]
  obtain ⟨N, hN⟩ : ∃ N, h1.length = N := ⟨_, rfl⟩
  have hNl : h.length + 2 = N := by rw [← hN, hh1]; simp
  obtain ⟨rid, hrid⟩ : ∃ rid, rid = h.length + 1 := ⟨_, rfl⟩
  rw [← hrid, show h.length + 3 = N + 1 by omega]
  have ri : RI h1 rid b (.ok b) h1 := ⟨0, 0, by rw [hh1, hrid]; simp [rdr], by rw [hh1, hrid]; simp, by simp [ISt]⟩
  repeat (first | ((first | refine zd ?_ | refine zx ?_ | refine zk ?_ | refine zl ?_ | refine zr ?_); refine zq ?_) | refine zs ?_ | refine zh (by simp -implicitDefEqProofs (disch := (first | omega | (simp; done) | fail)) [if_pos, if_neg, wrap_i64, tmod_pos, tdiv_pos, Int.toNat_add, hN, getN hN, setN hN, getN0 hN, setN0 hN]; rfl) ?_ | refine zb ?_ | refine zo ?_ | refine zt ?_ | refine zf ?_)
  refine goes_callS (callable_of Try.func41) (by simp -implicitDefEqProofs (disch := (first | omega | (simp; done) | fail)) [if_pos, if_neg, wrap_i64, tmod_pos, tdiv_pos, Int.toNat_add] <;> first | rfl | omega) _ (inumi_ok.at_ hB ri) ?_
  rintro _ _ ⟨⟨x1, rfl, vx1⟩, h', rfl, hl', ri2⟩
  clear ri
  have ri := ri2
  replace hN := hl'.trans hN
  clear ri2 hl'
  refine goes_eq (by simp -implicitDefEqProofs (disch := (first | omega | (simp; done) | fail)) [if_pos, if_neg, wrap_i64, tmod_pos, tdiv_pos, Int.toNat_add, hN, getN hN, setN hN, getN0 hN, setN0 hN]; rfl) ?_
  repeat (first | ((first | refine zd ?_ | refine zx ?_ | refine zk ?_ | refine zl ?_ | refine zr ?_); refine zq ?_) | refine zs ?_ | refine zh (by simp -implicitDefEqProofs (disch := (first | omega | (simp; done) | fail)) [if_pos, if_neg, wrap_i64, tmod_pos, tdiv_pos, Int.toNat_add, hN, getN hN, setN hN, getN0 hN, setN0 hN]; rfl) ?_ | refine zb ?_ | refine zo ?_ | refine zt ?_ | refine zf ?_)
  refine goes_callS (callable_of Try.func41) (by simp -implicitDefEqProofs (disch := (first | omega | (simp; done) | fail)) [if_pos, if_neg, wrap_i64, tmod_pos, tdiv_pos, Int.toNat_add] <;> first | rfl | omega) _ (inumi_ok.at_ hB ri) ?_
  rintro _ _ ⟨⟨x2, rfl, vx2⟩, h', rfl, hl', ri2⟩
  clear ri
  have ri := ri2
  replace hN := hl'.trans hN
  clear ri2 hl'
  refine goes_eq (by simp -implicitDefEqProofs (disch := (first | omega | (simp; done) | fail)) [if_pos, if_neg, wrap_i64, tmod_pos, tdiv_pos, Int.toNat_add, hN, getN hN, setN hN, getN0 hN, setN0 hN]; rfl) ?_
  repeat (first | ((first | refine zd ?_ | refine zx ?_ | refine zk ?_ | refine zl ?_ | refine zr ?_); refine zq ?_) | refine zs ?_ | refine zh (by simp -implicitDefEqProofs (disch := (first | omega | (simp; done) | fail)) [if_pos, if_neg, wrap_i64, tmod_pos, tdiv_pos, Int.toNat_add, hN, getN hN, setN hN, getN0 hN, setN0 hN]; rfl) ?_ | refine zb ?_ | refine zo ?_ | refine zt ?_ | refine zf ?_)
  refine goes_callS (callable_of Try.func41) (by simp -implicitDefEqProofs (disch := (first | omega | (simp; done) | fail)) [if_pos, if_neg, wrap_i64, tmod_pos, tdiv_pos, Int.toNat_add] <;> first | rfl | omega) _ (inumi_ok.at_ hB ri) ?_
  rintro _ _ ⟨⟨x3, rfl, vx3⟩, h', rfl, hl', ri2⟩
  clear ri
  have ri := ri2
  replace hN := hl'.trans hN
  clear ri2 hl'
  refine goes_eq (by simp -implicitDefEqProofs (disch := (first | omega | (simp; done) | fail)) [if_pos, if_neg, wrap_i64, tmod_pos, tdiv_pos, Int.toNat_add, hN, getN hN, setN hN, getN0 hN, setN0 hN]; rfl) ?_
  repeat (first | ((first | refine zd ?_ | refine zx ?_ | refine zk ?_ | refine zl ?_ | refine zr ?_); refine zq ?_) | refine zs ?_ | refine zh (by simp -implicitDefEqProofs (disch := (first | omega | (simp; done) | fail)) [if_pos, if_neg, wrap_i64, tmod_pos, tdiv_pos, Int.toNat_add, hN, getN hN, setN hN, getN0 hN, setN0 hN]; rfl) ?_ | refine zb ?_ | refine zo ?_ | refine zt ?_ | refine zf ?_)
  refine goes_callS (callable_of Try.func42) (by simp -implicitDefEqProofs (disch := (first | omega | (simp; done) | fail)) [if_pos, if_neg, wrap_i64, tmod_pos, tdiv_pos, Int.toNat_add, Iid.av, Iid.c] <;> first | rfl | omega) _ (iid_ok.at_ hB ri) ?_
  rintro _ _ ⟨⟨x4, rfl, vx4⟩, h', rfl, hl', ri2⟩
  clear ri
  have ri := ri2
  replace hN := hl'.trans hN
  clear ri2 hl'
  refine goes_eq (by simp -implicitDefEqProofs (disch := (first | omega | (simp; done) | fail)) [if_pos, if_neg, wrap_i64, tmod_pos, tdiv_pos, Int.toNat_add, hN, getN hN, setN hN, getN0 hN, setN0 hN, Iid.av, Iid.c]; rfl) ?_
  repeat (first | ((first | refine zd ?_ | refine zx ?_ | refine zk ?_ | refine zl ?_ | refine zr ?_); refine zq ?_) | refine zs ?_ | refine zh (by simp -implicitDefEqProofs (disch := (first | omega | (simp; done) | fail)) [if_pos, if_neg, wrap_i64, tmod_pos, tdiv_pos, Int.toNat_add, hN, getN hN, setN hN, getN0 hN, setN0 hN]; rfl) ?_ | refine zb ?_ | refine zo ?_ | refine zt ?_ | refine zf ?_)
  refine goes_callS (callable_of Try.func43) (by simp -implicitDefEqProofs (disch := (first | omega | (simp; done) | fail)) [if_pos, if_neg, wrap_i64, tmod_pos, tdiv_pos, Int.toNat_add, Bal.av', Bal.c] <;> first | rfl | omega) _ (ibal_ok.at_ hB ri) ?_
  rintro _ _ ⟨⟨x5, rfl, vx5⟩, h', rfl, hl', ri2⟩
  clear ri
  have ri := ri2
  replace hN := hl'.trans hN
  clear ri2 hl'
  refine goes_eq (by simp -implicitDefEqProofs (disch := (first | omega | (simp; done) | fail)) [if_pos, if_neg, wrap_i64, tmod_pos, tdiv_pos, Int.toNat_add, hN, getN hN, setN hN, getN0 hN, setN0 hN, Bal.av', Bal.c]; rfl) ?_
  repeat (first | ((first | refine zd ?_ | refine zx ?_ | refine zk ?_ | refine zl ?_ | refine zr ?_); refine zq ?_) | refine zs ?_ | refine zh (by simp -implicitDefEqProofs (disch := (first | omega | (simp; done) | fail)) [if_pos, if_neg, wrap_i64, tmod_pos, tdiv_pos, Int.toNat_add, hN, getN hN, setN hN, getN0 hN, setN0 hN]; rfl) ?_ | refine zb ?_ | refine zo ?_ | refine zt ?_ | refine zf ?_)
  refine goes_callS (callable_of Try.func44) (by simp -implicitDefEqProofs (disch := (first | omega | (simp; done) | fail)) [if_pos, if_neg, wrap_i64, tmod_pos, tdiv_pos, Int.toNat_add, Inst.av', Inst.c] <;> first | rfl | omega) _ (iinst_ok.at_ hB ri) ?_
  rintro _ _ ⟨⟨x6, rfl, vx6⟩, h', rfl, hl', ri2⟩
  clear ri
  have ri := ri2
  replace hN := hl'.trans hN
  clear ri2 hl'
  refine goes_eq (by simp -implicitDefEqProofs (disch := (first | omega | (simp; done) | fail)) [if_pos, if_neg, wrap_i64, tmod_pos, tdiv_pos, Int.toNat_add, hN, getN hN, setN hN, getN0 hN, setN0 hN, Inst.av', Inst.c]; rfl) ?_
  repeat (first | ((first | refine zd ?_ | refine zx ?_ | refine zk ?_ | refine zl ?_ | refine zr ?_); refine zq ?_) | refine zs ?_ | refine zh (by simp -implicitDefEqProofs (disch := (first | omega | (simp; done) | fail)) [if_pos, if_neg, wrap_i64, tmod_pos, tdiv_pos, Int.toNat_add, hN, getN hN, setN hN, getN0 hN, setN0 hN]; rfl) ?_ | refine zb ?_ | refine zo ?_ | refine zt ?_ | refine zf ?_)
  refine goes_callS (callable_of Try.func45) (by simp -implicitDefEqProofs (disch := (first | omega | (simp; done) | fail)) [if_pos, if_neg, wrap_i64, tmod_pos, tdiv_pos, Int.toNat_add, Snap.av', Snap.c] <;> first | rfl | omega) _ (isnap_ok.at_ hB ri) ?_
  rintro _ _ ⟨⟨x7, rfl, vx7⟩, h', rfl, hl', ri2⟩
  clear ri
  have ri := ri2
  replace hN := hl'.trans hN
  clear ri2 hl'
  refine goes_eq (by simp -implicitDefEqProofs (disch := (first | omega | (simp; done) | fail)) [if_pos, if_neg, wrap_i64, tmod_pos, tdiv_pos, Int.toNat_add, hN, getN hN, setN hN, getN0 hN, setN0 hN, Snap.av', Snap.c]; rfl) ?_
  repeat (first | ((first | refine zd ?_ | refine zx ?_ | refine zk ?_ | refine zl ?_ | refine zr ?_); refine zq ?_) | refine zs ?_ | refine zh (by simp -implicitDefEqProofs (disch := (first | omega | (simp; done) | fail)) [if_pos, if_neg, wrap_i64, tmod_pos, tdiv_pos, Int.toNat_add, hN, getN hN, setN hN, getN0 hN, setN0 hN]; rfl) ?_ | refine zb ?_ | refine zo ?_ | refine zt ?_ | refine zf ?_)
  have vs : VS rdMsg (.ok b) ⟨x1, x2, x3, x4, x5, x6, x7⟩ _ := (((((((VS.nop.seq vx1).seq vx2).seq vx3).seq vx4).seq vx5).seq vx6).seq vx7).as _
  rw [← vs.2] at ri
  refine goes_callS (callable_of Try.func46) (by simp -implicitDefEqProofs (disch := (first | omega | (simp; done) | fail)) [if_pos, if_neg, wrap_i64, tmod_pos, tdiv_pos, Int.toNat_add] <;> first | rfl | omega) _ (iend_ok _ rid b _ hB (ri.now _)) ?_
  rintro _ _ ⟨rfl, rfl⟩
  obtain ⟨a, e, rfl, _, _⟩ := ri
  obtain ⟨w1, w2, w3⟩ := whole_end rdMsg .zero b good_msg.nz
  rw [← w1]
  have hv := vs.1 b
  clear w1 vs hN
  generalize whole rdMsg .zero b = w at *
  obtain ⟨h2, he2⟩ : ∃ h2, h2 = h ++ [.cells Msg.z, rdr b a e] := ⟨_, rfl⟩
  rw [show h1.set rid (rdr b a e) = h2 by rw [hh1, hrid, he2]; simp [Msg.z]]
  subst hNl
  subst hrid
  unfold Msg.z at he2
  subst he2
  simp only [List.append_assoc, List.cons_append, List.nil_append]
  rw [show h.length + 2 + 1 = h.length + 3 from rfl]
  clear hh1
  generalize rdr b a e = ro
  by_cases hz : w.2 = 0
  · obtain ⟨p, hp, hw⟩ := w3 hz
    rw [hz, hw, ← hv p rfl hp]
    refine ze ?_
    repeat (first | ((first | refine zd ?_ | refine zx ?_ | refine zk ?_ | refine zl ?_ | refine zr ?_); refine zq ?_) | refine zs ?_ | refine zg ?_ | refine zb ?_ | refine zo ?_ | refine zt ?_ | refine zf ?_)
    first | refine zy (.inr rfl) ?_ | refine zy (.inl rfl) ?_
    simp [Msg.c]
  · rw [w2 hz]
    have hz2 : ((w.2 : Int) != 0) = true := by simp; omega
    refine ze ?_
    repeat (first | ((first | refine zd ?_ | refine zx ?_ | refine zk ?_ | refine zl ?_ | refine zr ?_); refine zq ?_) | refine zs ?_ | refine zh (by simp -implicitDefEqProofs (disch := (first | omega | (simp; done) | fail)) [if_pos, if_neg, wrap_i64, tmod_pos, tdiv_pos, Int.toNat_add, hz2]; rfl) ?_ | refine zb ?_ | refine zo ?_ | refine zt ?_ | refine zf ?_)
    first | refine zy (.inr rfl) ?_ | refine zy (.inl rfl) ?_
    simp [Msg.c, Msg.zero, Iid.zero, Bal.zero, Cmd.zero, Inst.zero, Snap.zero]
end Go.Proofs.Ytdoaglcnncapdaa.D

/- Bytes as messages, the document's reader: records. -/
set_option linter.unusedVariables false
set_option linter.unusedSimpArgs false
set_option maxRecDepth 20000
namespace Go.Proofs.Ytdoaglcnncapdaa.D
open Go Go.Proofs.Ytdoaglcnncapdaa.V Go.Proofs.Ytdoaglcnncapdaa.N
theorem recA {b : List UInt8} {x1 : Int} {s : Snap} (v1 : Val rdNum (.ok b) x1) (hx : x1 = 1) (vs : Val rdSnap (runT rdNum (.ok b)) s) : VS rdRec (.ok b) ⟨true, .zero, .zero, s⟩ (runT rdSnap (runT rdNum (.ok b))) := by
  cases hn : rdNum b with
  | error e =>
    have hr : rdRec b = .error e := by simp [rdRec, hn]
    rw [run_err hn]
    exact ⟨fun l p h1 h2 => by injection h1 with h1; subst h1; rw [hr] at h2; exact absurd h2 (by simp), by rw [run_err hr]; rfl⟩
  | ok p =>
    have h1 := v1 b p rfl hn
    have hr : rdRec b = mapS (fun s => (⟨true, .zero, .zero, s⟩ : Rec)) rdSnap p.2 := by simp [rdRec, hn, ← h1, hx]
    rw [run_ok hn] at vs ⊢
    have := (VS.as (f := rdSnap) ⟨vs, rfl⟩ (fun s => (⟨true, .zero, .zero, s⟩ : Rec)))
    refine ⟨fun l q h1 h2 => ?_, ?_⟩
    · injection h1 with h1; subst h1; rw [hr] at h2; exact this.1 p.2 q rfl h2
    · rw [← this.2]; simp only [runT, hr]
theorem recB {b : List UInt8} {x1 : Int} {i : Iid} {n : Inst} {st' : St} (v1 : Val rdNum (.ok b) x1) (hx : x1 ≠ 1) (hx2 : ∀ l, runT rdNum (.ok b) = .ok l → ¬ 1 < x1) (vs : VS rdII (runT rdNum (.ok b)) (i, n) st') : VS rdRec (.ok b) ⟨false, i, n, .zero⟩ st' := by
  cases hn : rdNum b with
  | error e =>
    have hr : rdRec b = .error e := by simp [rdRec, hn]
    rw [run_err hn] at vs
    exact ⟨fun l p h1 h2 => by injection h1 with h1; subst h1; rw [hr] at h2; exact absurd h2 (by simp), by rw [run_err hr, ← vs.2]; rfl⟩
  | ok p =>
    have h1 := v1 b p rfl hn
    have h3 := hx2 p.2 (run_ok hn)
    have hr : rdRec b = mapS (fun q => (⟨false, q.1, q.2, .zero⟩ : Rec)) rdII p.2 := by simp [rdRec, hn, ← h1, hx, h3]
    rw [run_ok hn] at vs
    have := VS.as vs (fun q => (⟨false, q.1, q.2, .zero⟩ : Rec))
    refine ⟨fun l q h1 h2 => ?_, ?_⟩
    · injection h1 with h1; subst h1; rw [hr] at h2; exact this.1 p.2 q rfl h2
    · rw [← this.2]; simp only [runT, hr]
theorem iget_ok (b : List UInt8) (hB : b.length ≤ 100000) (h : AHeap) : ACalls Try.prog 20 [.str b] h fun r h' => r = .tuple [.agg (whole rdRec .zero b).1.c, .int .i64 ((whole rdRec .zero b).2 : Nat)] ∧ h' = h := by
  refine acalls_of_awp Try.func20 rfl (by simp only [List.length_cons, List.length_nil]; decide) ?_
  simp only [params_cons, params_nil]
  refine awp_seq ?_
  refine zg ?_
  refine goes_done ?_
  (try simp only [vq, if_true, reduceIte, Nat.reduceEqDiff, reduceCtorEq])
  refine awp_seq ?_
  refine zg ?_
  refine goes_done ?_
  (try simp only [vq, if_true, reduceIte, Nat.reduceEqDiff, reduceCtorEq])
  refine awp_hard (id := h.length + 2) (by simp -implicitDefEqProofs; rfl) ?_
  simp -implicitDefEqProofs only [Slots.melt, AV.melt, Nat.add_left_cancel_iff, Nat.add_eq_left, Nat.left_eq_add, Nat.reduceEqDiff, reduceIte, Nat.succ_ne_self, Nat.one_ne_zero, Nat.zero_ne_one, List.set_append_right, List.set_append_left, Nat.sub_self, Nat.le_refl, Nat.add_sub_cancel_left, Nat.le_add_right, List.set_cons_zero, List.set_cons_succ]
  refine awp_seq ?_
  refine zg ?_
  refine goes_done ?_
  (try simp only [vq, if_true, reduceIte, Nat.reduceEqDiff, reduceCtorEq])
  rw [show ∀ (a b c d : AObj), h ++ [a, b, c, d] = (h ++ [a, b]) ++ [c, d] from fun a b c d => by simp]
  obtain ⟨h1, hh1⟩ : ∃ h1, h1 = h ++ [.cells (Rec.z false), .cells [.str b, iv 0, iv 0]] := ⟨_, rfl⟩
  unfold Rec.z at hh1
  rw [← hh1]
  obtain ⟨N, hN⟩ : ∃ N, h1.length = N := ⟨_, rfl⟩
  have hNl : h.length + 2 = N := by rw [← hN, hh1]; simp
  obtain ⟨rid, hrid⟩ : ∃ rid, rid = h.length + 1 := ⟨_, rfl⟩
  rw [← hrid, show h.length + 3 = N + 1 by omega]
  have ri : RI h1 rid b (.ok b) h1 := ⟨0, 0, by rw [hh1, hrid]; simp [rdr], by rw [hh1, hrid]; simp, by simp [ISt]⟩
  repeat (first | ((first | refine zd ?_ | refine zx ?_ | refine zk ?_ | refine zl ?_ | refine zr ?_); refine zq ?_) | refine zs ?_ | refine zh (by simp -implicitDefEqProofs (disch := (first | omega | (simp; done) | fail)) [if_pos, if_neg, wrap_i64, tmod_pos, tdiv_pos, Int.toNat_add, hN, getN hN, setN hN, getN0 hN, setN0 hN]; rfl) ?_ | refine zb ?_ | refine zo ?_ | refine zt ?_ | refine zf ?_)
  refine goes_callS (callable_of Try.func41) (by simp -implicitDefEqProofs (disch := (first | omega | (simp; done) | fail)) [if_pos, if_neg, wrap_i64, tmod_pos, tdiv_pos, Int.toNat_add] <;> first | rfl | omega) _ (inumi_ok.at_ hB ri) ?_
  rintro _ _ ⟨⟨x1, rfl, vx1⟩, h', rfl, hl', ri2⟩
  clear ri
  have ri := ri2
  replace hN := hl'.trans hN
  clear ri2 hl'
  refine goes_eq (by simp -implicitDefEqProofs (disch := (first | omega | (simp; done) | fail)) [if_pos, if_neg, wrap_i64, tmod_pos, tdiv_pos, Int.toNat_add, hN, getN hN, setN hN, getN0 hN, setN0 hN]; rfl) ?_
  by_cases hbig : (∃ l, runT rdNum (.ok b) = .ok l) ∧ 1 < x1
  · obtain ⟨⟨l, hl⟩, hx⟩ := hbig
    have hw : whole rdRec .zero b = (.zero, 11) := by
      cases hn : rdNum b with
      | error e => rw [run_err hn] at hl; cases hl
      | ok p =>
        have h1 := vx1 b p rfl hn
        have hr : rdRec b = .error 11 := by simp [rdRec, hn, ← h1, hx]
        simp [whole, hr]
    rw [hl] at ri
    rw [hw]
    obtain ⟨a, e, rfl, _, hst⟩ := ri
    obtain ⟨h2, he2⟩ : ∃ h2, h2 = h ++ [.cells (Rec.z false), rdr b a e] := ⟨_, rfl⟩
    rw [show h1.set rid (rdr b a e) = h2 by rw [hh1, hrid, he2]; simp [Rec.z]]
    clear hN
    subst hNl
    subst hrid
    simp only [Rec.z] at he2
    subst he2
    simp only [List.append_assoc, List.cons_append, List.nil_append]
    rw [show h.length + 2 + 1 = h.length + 3 from rfl]
    clear hh1
    obtain ⟨_, rfl, _⟩ := hst
    unfold rdr
    refine goes_done ?_
    repeat (first | ((first | refine zd ?_ | refine zx ?_ | refine zk ?_ | refine zl ?_ | refine zr ?_); refine zq ?_) | refine zs ?_ | refine zh (by simp -implicitDefEqProofs (disch := (first | omega | (simp; done) | fail)) [if_pos, if_neg, wrap_i64, tmod_pos, tdiv_pos, Int.toNat_add, hx]; rfl) ?_ | refine zb ?_ | refine zo ?_ | refine zt ?_ | refine zf ?_)
    first | refine zy (.inr rfl) ?_ | refine zy (.inl rfl) ?_
    simp [Rec.c, Rec.zero, Iid.zero, Bal.zero, Cmd.zero, Inst.zero, Snap.zero]
  refine goes_done ?_
  (try simp only [vq, if_true, reduceIte, Nat.reduceEqDiff, reduceCtorEq])
  refine awp_cut (fun st' => st'.le ⟨Try.f20.ntmps, [(6, iv x1), (5, .ptr (N + 1) 0), (4, .ref [.ptr rid 0] 0), (3, iv 0), (2, .ptr h.length 0)], h' ++ [.dead, .cells [.bool false, iv 0, iv 0, iv 0, iv 0, iv 0, iv 0, iv 0, iv 0, iv 0, iv 0, iv 0, .str [], .str [], iv 0, iv 0, iv 0, iv 0, .list [] .full, iv 0, .list [] .full, .list [] .full, .list [] .full]]⟩) ?_ ?_
  · obtain ⟨a, e, hg, ha, hs⟩ := ri.getl
    unfold rdr at hg
    cases hst : runT rdNum (.ok b) with
    | error e' =>
      rw [hst] at hs
      obtain ⟨he, rfl⟩ := hs
      have q2 : ((e : Int) == 0) = false := by simp; omega
      repeat (first | ((first | refine zd ?_ | refine zx ?_ | refine zk ?_ | refine zl ?_ | refine zr ?_); refine zq ?_) | refine zs ?_ | refine zh (by simp -implicitDefEqProofs (disch := (first | omega | (simp; done) | fail)) [if_pos, if_neg, wrap_i64, tmod_pos, tdiv_pos, Int.toNat_add, hN, getN hN, setN hN, getN0 hN, setN0 hN, hg, q2]; rfl) ?_ | refine zb ?_ | refine zo ?_ | refine zt ?_ | refine zf ?_)
      exact st_keep' (by simp []) (by simp [])
    | ok l =>
      rw [hst] at hs
      obtain ⟨rfl, _⟩ := hs
      have hg : ∀ l : AHeap, (h' ++ l)[rid]? = some (.cells [.str b, .int .i64 (a : Nat), .int .i64 0]) := hg
      have q2 : ¬ 1 < x1 := fun hx => hbig ⟨⟨l, hst⟩, hx⟩
      repeat (first | ((first | refine zd ?_ | refine zx ?_ | refine zk ?_ | refine zl ?_ | refine zr ?_); refine zq ?_) | refine zs ?_ | refine zh (by simp -implicitDefEqProofs (disch := (first | omega | (simp; done) | fail)) [if_pos, if_neg, wrap_i64, tmod_pos, tdiv_pos, Int.toNat_add, hN, getN hN, setN hN, getN0 hN, setN0 hN, hg, q2]; rfl) ?_ | refine zb ?_ | refine zo ?_ | refine zt ?_ | refine zf ?_)
      exact st_keep' (by simp []) (by simp [])
  intro st' hle
  refine awp_le hle ?_
  clear hle
  by_cases hx : x1 = 1
  · have q3 : (x1 == 1) = true := by simp [hx]
    repeat (first | ((first | refine zd ?_ | refine zx ?_ | refine zk ?_ | refine zl ?_ | refine zr ?_); refine zq ?_) | refine zs ?_ | refine zh (by simp -implicitDefEqProofs (disch := (first | omega | (simp; done) | fail)) [if_pos, if_neg, wrap_i64, tmod_pos, tdiv_pos, Int.toNat_add, hN, getN hN, setN hN, getN0 hN, setN0 hN, q3]; rfl) ?_ | refine zb ?_ | refine zo ?_ | refine zt ?_ | refine zf ?_)
    refine goes_callS (callable_of Try.func45) (by simp -implicitDefEqProofs (disch := (first | omega | (simp; done) | fail)) [if_pos, if_neg, wrap_i64, tmod_pos, tdiv_pos, Int.toNat_add, Snap.av', Snap.c] <;> first | rfl | omega) _ (isnap_ok.at_ hB ri) ?_
    rintro _ _ ⟨⟨x2, rfl, vx2⟩, h', rfl, hl', ri2⟩
    clear ri
    have ri := ri2
    replace hN := hl'.trans hN
    clear ri2 hl'
    refine goes_eq (by simp -implicitDefEqProofs (disch := (first | omega | (simp; done) | fail)) [if_pos, if_neg, wrap_i64, tmod_pos, tdiv_pos, Int.toNat_add, hN, getN hN, setN hN, getN0 hN, setN0 hN, Snap.av', Snap.c]; rfl) ?_
    repeat (first | ((first | refine zd ?_ | refine zx ?_ | refine zk ?_ | refine zl ?_ | refine zr ?_); refine zq ?_) | refine zs ?_ | refine zh (by simp -implicitDefEqProofs (disch := (first | omega | (simp; done) | fail)) [if_pos, if_neg, wrap_i64, tmod_pos, tdiv_pos, Int.toNat_add, hN, getN hN, setN hN, getN0 hN, setN0 hN]; rfl) ?_ | refine zb ?_ | refine zo ?_ | refine zt ?_ | refine zf ?_)
    have vs := recA vx1 hx vx2
    rw [← vs.2] at ri
    refine goes_callS (callable_of Try.func46) (by simp -implicitDefEqProofs (disch := (first | omega | (simp; done) | fail)) [if_pos, if_neg, wrap_i64, tmod_pos, tdiv_pos, Int.toNat_add] <;> first | rfl | omega) _ (iend_ok _ rid b _ hB (ri.now _)) ?_
    rintro _ _ ⟨rfl, rfl⟩
    obtain ⟨w1, w2, w3⟩ := whole_end rdRec .zero b rec_nz
    rw [← w1]
    have hv := vs.1 b
    clear w1 vs
    generalize whole rdRec .zero b = w at *
    obtain ⟨a, e, rfl, _, hst⟩ := ri
    obtain ⟨h2, he2⟩ : ∃ h2, h2 = h ++ [.cells (Rec.z false), rdr b a e] := ⟨_, rfl⟩
    rw [show h1.set rid (rdr b a e) = h2 by rw [hh1, hrid, he2]; simp [Rec.z]]
    clear hN
    subst hNl
    subst hrid
    simp only [Rec.z] at he2
    subst he2
    simp only [List.append_assoc, List.cons_append, List.nil_append]
    rw [show h.length + 2 + 1 = h.length + 3 from rfl]
    clear hh1
    generalize rdr b a e = ro
    by_cases hz : w.2 = 0
    · obtain ⟨p, hp, hw⟩ := w3 hz
      rw [hz, hw, ← hv p rfl hp]
      refine ze ?_
      repeat (first | ((first | refine zd ?_ | refine zx ?_ | refine zk ?_ | refine zl ?_ | refine zr ?_); refine zq ?_) | refine zs ?_ | refine zg ?_ | refine zb ?_ | refine zo ?_ | refine zt ?_ | refine zf ?_)
      first | refine zy (.inr rfl) ?_ | refine zy (.inl rfl) ?_
      simp [Rec.c, Iid.zero, Bal.zero, Cmd.zero, Inst.zero, Snap.zero]
    · rw [w2 hz]
      have hz2 : ((w.2 : Int) != 0) = true := by simp; omega
      refine ze ?_
      repeat (first | ((first | refine zd ?_ | refine zx ?_ | refine zk ?_ | refine zl ?_ | refine zr ?_); refine zq ?_) | refine zs ?_ | refine zh (by simp -implicitDefEqProofs (disch := (first | omega | (simp; done) | fail)) [if_pos, if_neg, wrap_i64, tmod_pos, tdiv_pos, Int.toNat_add, hz2]; rfl) ?_ | refine zb ?_ | refine zo ?_ | refine zt ?_ | refine zf ?_)
      first | refine zy (.inr rfl) ?_ | refine zy (.inl rfl) ?_
      simp [Rec.c, Rec.zero, Iid.zero, Bal.zero, Cmd.zero, Inst.zero, Snap.zero]
  · have q3 : (x1 == 1) = false := by simp [hx]
    repeat (first | ((first | refine zd ?_ | refine zx ?_ | refine zk ?_ | refine zl ?_ | refine zr ?_); refine zq ?_) | refine zs ?_ | refine zh (by simp -implicitDefEqProofs (disch := (first | omega | (simp; done) | fail)) [if_pos, if_neg, wrap_i64, tmod_pos, tdiv_pos, Int.toNat_add, hN, getN hN, setN hN, getN0 hN, setN0 hN, q3]; rfl) ?_ | refine zb ?_ | refine zo ?_ | refine zt ?_ | refine zf ?_)
    refine goes_callS (callable_of Try.func42) (by simp -implicitDefEqProofs (disch := (first | omega | (simp; done) | fail)) [if_pos, if_neg, wrap_i64, tmod_pos, tdiv_pos, Int.toNat_add, Iid.av, Iid.c] <;> first | rfl | omega) _ (iid_ok.at_ hB ri) ?_
    rintro _ _ ⟨⟨x2, rfl, vx2⟩, h', rfl, hl', ri2⟩
    clear ri
    have ri := ri2
    replace hN := hl'.trans hN
    clear ri2 hl'
    refine goes_eq (by simp -implicitDefEqProofs (disch := (first | omega | (simp; done) | fail)) [if_pos, if_neg, wrap_i64, tmod_pos, tdiv_pos, Int.toNat_add, hN, getN hN, setN hN, getN0 hN, setN0 hN, Iid.av, Iid.c]; rfl) ?_
    repeat (first | ((first | refine zd ?_ | refine zx ?_ | refine zk ?_ | refine zl ?_ | refine zr ?_); refine zq ?_) | refine zs ?_ | refine zh (by simp -implicitDefEqProofs (disch := (first | omega | (simp; done) | fail)) [if_pos, if_neg, wrap_i64, tmod_pos, tdiv_pos, Int.toNat_add, hN, getN hN, setN hN, getN0 hN, setN0 hN]; rfl) ?_ | refine zb ?_ | refine zo ?_ | refine zt ?_ | refine zf ?_)
    refine goes_callS (callable_of Try.func44) (by simp -implicitDefEqProofs (disch := (first | omega | (simp; done) | fail)) [if_pos, if_neg, wrap_i64, tmod_pos, tdiv_pos, Int.toNat_add, Inst.av', Inst.c] <;> first | rfl | omega) _ (iinst_ok.at_ hB ri) ?_
    rintro _ _ ⟨⟨x3, rfl, vx3⟩, h', rfl, hl', ri2⟩
    clear ri
    have ri := ri2
    replace hN := hl'.trans hN
    clear ri2 hl'
    refine goes_eq (by simp -implicitDefEqProofs (disch := (first | omega | (simp; done) | fail)) [if_pos, if_neg, wrap_i64, tmod_pos, tdiv_pos, Int.toNat_add, hN, getN hN, setN hN, getN0 hN, setN0 hN, Inst.av', Inst.c]; rfl) ?_
    repeat (first | ((first | refine zd ?_ | refine zx ?_ | refine zk ?_ | refine zl ?_ | refine zr ?_); refine zq ?_) | refine zs ?_ | refine zh (by simp -implicitDefEqProofs (disch := (first | omega | (simp; done) | fail)) [if_pos, if_neg, wrap_i64, tmod_pos, tdiv_pos, Int.toNat_add, hN, getN hN, setN hN, getN0 hN, setN0 hN]; rfl) ?_ | refine zb ?_ | refine zo ?_ | refine zt ?_ | refine zf ?_)
    have vs := recB vx1 hx (fun l hl h => hbig ⟨⟨l, hl⟩, h⟩) (((VS.nop.seq vx2).seq vx3).as (fun p => (p.1.2, p.2)))
    rw [← vs.2] at ri
    refine goes_callS (callable_of Try.func46) (by simp -implicitDefEqProofs (disch := (first | omega | (simp; done) | fail)) [if_pos, if_neg, wrap_i64, tmod_pos, tdiv_pos, Int.toNat_add] <;> first | rfl | omega) _ (iend_ok _ rid b _ hB (ri.now _)) ?_
    rintro _ _ ⟨rfl, rfl⟩
    obtain ⟨w1, w2, w3⟩ := whole_end rdRec .zero b rec_nz
    rw [← w1]
    have hv := vs.1 b
    clear w1 vs
    generalize whole rdRec .zero b = w at *
    obtain ⟨a, e, rfl, _, hst⟩ := ri
    obtain ⟨h2, he2⟩ : ∃ h2, h2 = h ++ [.cells (Rec.z false), rdr b a e] := ⟨_, rfl⟩
    rw [show h1.set rid (rdr b a e) = h2 by rw [hh1, hrid, he2]; simp [Rec.z]]
    clear hN
    subst hNl
    subst hrid
    simp only [Rec.z] at he2
    subst he2
    simp only [List.append_assoc, List.cons_append, List.nil_append]
    rw [show h.length + 2 + 1 = h.length + 3 from rfl]
    clear hh1
    generalize rdr b a e = ro
    by_cases hz : w.2 = 0
    · obtain ⟨p, hp, hw⟩ := w3 hz
      rw [hz, hw, ← hv p rfl hp]
      refine ze ?_
      repeat (first | ((first | refine zd ?_ | refine zx ?_ | refine zk ?_ | refine zl ?_ | refine zr ?_); refine zq ?_) | refine zs ?_ | refine zg ?_ | refine zb ?_ | refine zo ?_ | refine zt ?_ | refine zf ?_)
      first | refine zy (.inr rfl) ?_ | refine zy (.inl rfl) ?_
      simp [Rec.c, Iid.zero, Bal.zero, Cmd.zero, Inst.zero, Snap.zero]
    · rw [w2 hz]
      have hz2 : ((w.2 : Int) != 0) = true := by simp; omega
      refine ze ?_
      repeat (first | ((first | refine zd ?_ | refine zx ?_ | refine zk ?_ | refine zl ?_ | refine zr ?_); refine zq ?_) | refine zs ?_ | refine zh (by simp -implicitDefEqProofs (disch := (first | omega | (simp; done) | fail)) [if_pos, if_neg, wrap_i64, tmod_pos, tdiv_pos, Int.toNat_add, hz2]; rfl) ?_ | refine zb ?_ | refine zo ?_ | refine zt ?_ | refine zf ?_)
      first | refine zy (.inr rfl) ?_ | refine zy (.inl rfl) ?_
      simp [Rec.c, Rec.zero, Iid.zero, Bal.zero, Cmd.zero, Inst.zero, Snap.zero]
end Go.Proofs.Ytdoaglcnncapdaa.D
