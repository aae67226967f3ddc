import Derived.Test.YtdncoobpdllpkaaGreatDS
/- Bytes as messages: replies, sessions, snaps, instances, messages are read. -/
set_option linter.unusedVariables false
set_option linter.unusedSimpArgs false
set_option maxRecDepth 20000
namespace Go.Proofs.YtdncoobpdllpkaaGreat.D
open Go Go.Proofs.YtdncoobpdllpkaaGreat.V Go.Proofs.YtdncoobpdllpkaaGreat.N
def rdReply : Spec Reply := mapS (fun p => ⟨p.1.1.1.2, p.1.1.2, p.1.2, p.2⟩) (seqS (seqS (seqS (seqS nopS rdNum) rdText) rdNum) (rdList rdT1))
theorem rreply_ok : Rds rv 87 [] [iv 0, .str [], iv 0, .list [] .full] rdReply Reply.c := by
  rintro h rid nrid tid cs off st hq hn1 hn2 ht hz hl
  have rp : RdP h rid nrid tid cs off st 0 nopS (fun _ => []) h := RdP.start off hq ht
  unfold rv
  refine acalls_of_awp Tryz.func87 rfl (by simp only [List.length_cons, List.length_nil]; decide) ?_
  simp only [params_cons, params_nil]
  repeat (first | ((first | refine zd ?_ | refine zx ?_ | refine zk ?_ | refine zl ?_ | refine zr ?_); refine zq ?_) | refine zs ?_ | refine zh (by simp -implicitDefEqProofs (disch := (first | omega | (simp; done) | fail)) [if_pos, if_neg, wrap_i64, tmod_pos, tdiv_pos, Int.toNat_add, rv]; rfl) ?_ | refine zb ?_ | refine zo ?_ | refine zt ?_ | refine zf ?_)
  obtain ⟨new, rq, hnl, r2, r3⟩ := rp.cut
  have hz' := RdP.z (m := 1) hz hnl (by simp) hl
  have hl' : off + 0 + 1 ≤ (V.over cs off new).length := by simp only [List.length_cons, List.length_nil, List.length_append, Nat.zero_add] at hnl hl; rw [over_len (by omega)]; omega
  have hbf : off + 0 ≤ cs.length := (by simp only [List.length_cons, List.length_nil, List.length_append, Nat.zero_add] at hl; omega)
  refine goes_callS (callable_of Tryz.func95) (by simp -implicitDefEqProofs (disch := (first | omega | (simp; done) | fail)) [if_pos, if_neg, wrap_i64, tmod_pos, tdiv_pos, Int.toNat_add, rv, pm, rv] <;> first | rfl | omega) _ ((rasErr_ok) _ rid nrid tid _ (off + 0) _ r3 hn1 hn2 r2 hz' hl') ?_
  rintro _ h' ⟨rfl, rp'⟩
  replace rp := RdP.go hbf rq rp'
  clear rq hnl r2 r3 rp' hz' hl' hbf
  refine goes_eq (by simp -implicitDefEqProofs (disch := (first | omega | (simp; done) | fail)) [if_pos, if_neg, wrap_i64, tmod_pos, tdiv_pos, Int.toNat_add, rv]; rfl) ?_
  (refine goes_done ?_; (try simp only [vq, if_true, reduceIte, Nat.reduceEqDiff, reduceCtorEq]))
  (try refine awp_seq ?_)
  refine awp_draw (.q 0 (.q 1 (.q 2 (.q 3 (.q 4 (.q 5 (.q 6 (.a 7 (.done))))))))) (by kernel_rfl) (by kernel_rfl) (tree_start (goesT_eq (by simp -implicitDefEqProofs (disch := (first | omega | (simp; done) | fail)) [if_pos, if_neg, wrap_i64, tmod_pos, tdiv_pos, Int.toNat_add, rv]; rfl) ?_))
  obtain ⟨new, rq, hnl, r2, r3⟩ := rp.cut
  have hz' := RdP.z (m := 1) hz hnl (by simp) hl
  have hl' : off + 1 + 1 ≤ (V.over cs off new).length := by simp only [List.length_cons, List.length_nil, List.length_append, Nat.zero_add] at hnl hl; rw [over_len (by omega)]; omega
  have hbf : off + 1 ≤ cs.length := (by simp only [List.length_cons, List.length_nil, List.length_append, Nat.zero_add] at hl; omega)
  refine goesT_callS (callable_of Tryz.func139) (by simp -implicitDefEqProofs (disch := (first | omega | (simp; done) | fail)) [if_pos, if_neg, wrap_i64, tmod_pos, tdiv_pos, Int.toNat_add, rv, pm] <;> first | rfl | omega) _ ((mrtext_ok) _ rid nrid tid _ (off + 1) _ r3 hn1 hn2 r2 hz' hl') ?_
  rintro _ h' ⟨rfl, rp'⟩
  replace rp := RdP.go hbf rq rp'
  clear rq hnl r2 r3 rp' hz' hl' hbf
  refine zE ?_
  refine goesT_done ?_
  (try simp only [vq, if_true, reduceIte, Nat.reduceEqDiff, reduceCtorEq])
  (try refine awp_seq ?_)
  refine awp_draw (.q 0 (.q 1 (.q 2 (.q 3 (.q 4 (.q 5 (.q 6 (.a 7 (.done))))))))) (by kernel_rfl) (by kernel_rfl) (tree_start (goesT_eq (by simp -implicitDefEqProofs (disch := (first | omega | (simp; done) | fail)) [if_pos, if_neg, wrap_i64, tmod_pos, tdiv_pos, Int.toNat_add, rv]; rfl) ?_))
  obtain ⟨new, rq, hnl, r2, r3⟩ := rp.cut
  have hz' := RdP.z (m := 1) hz hnl (by simp) hl
  have hl' : off + 2 + 1 ≤ (V.over cs off new).length := by simp only [List.length_cons, List.length_nil, List.length_append, Nat.zero_add] at hnl hl; rw [over_len (by omega)]; omega
  have hbf : off + 2 ≤ cs.length := (by simp only [List.length_cons, List.length_nil, List.length_append, Nat.zero_add] at hl; omega)
  refine goesT_callS (callable_of Tryz.func137) (by simp -implicitDefEqProofs (disch := (first | omega | (simp; done) | fail)) [if_pos, if_neg, wrap_i64, tmod_pos, tdiv_pos, Int.toNat_add, rv, pm] <;> first | rfl | omega) _ ((mrnum_ok) _ rid nrid tid _ (off + 2) _ r3 hn1 hn2 r2 hz' hl') ?_
  rintro _ h' ⟨rfl, rp'⟩
  replace rp := RdP.go hbf rq rp'
  clear rq hnl r2 r3 rp' hz' hl' hbf
  refine zE ?_
  refine goesT_done ?_
  (try simp only [vq, if_true, reduceIte, Nat.reduceEqDiff, reduceCtorEq])
  repeat (first | ((first | refine zd ?_ | refine zx ?_ | refine zk ?_ | refine zl ?_ | refine zr ?_); refine zq ?_) | refine zs ?_ | refine zh (by simp -implicitDefEqProofs (disch := (first | omega | (simp; done) | fail)) [if_pos, if_neg, wrap_i64, tmod_pos, tdiv_pos, Int.toNat_add, rv]; rfl) ?_ | refine zb ?_ | refine zo ?_ | refine zt ?_ | refine zf ?_)
  obtain ⟨new, rq, hnl, r2, r3⟩ := rp.cut
  have hz' := RdP.z (m := 1) hz hnl (by simp) hl
  have hl' : off + 3 + 1 ≤ (V.over cs off new).length := by simp only [List.length_cons, List.length_nil, List.length_append, Nat.zero_add] at hnl hl; rw [over_len (by omega)]; omega
  have hbf : off + 3 ≤ cs.length := (by simp only [List.length_cons, List.length_nil, List.length_append, Nat.zero_add] at hl; omega)
  refine goes_callS (callable_of Tryz.func96) (by simp -implicitDefEqProofs (disch := (first | omega | (simp; done) | fail)) [if_pos, if_neg, wrap_i64, tmod_pos, tdiv_pos, Int.toNat_add, rv, pm, rv] <;> first | rfl | omega) _ ((rtexts_ok) _ rid nrid tid _ (off + 3) _ r3 hn1 hn2 r2 hz' hl') ?_
  rintro _ h' ⟨rfl, rp'⟩
  replace rp := RdP.go hbf rq rp'
  clear rq hnl r2 r3 rp' hz' hl' hbf
  refine goes_eq (by simp -implicitDefEqProofs (disch := (first | omega | (simp; done) | fail)) [if_pos, if_neg, wrap_i64, tmod_pos, tdiv_pos, Int.toNat_add, rv]; rfl) ?_
  (refine goes_done ?_; (try simp only [vq, if_true, reduceIte, Nat.reduceEqDiff, reduceCtorEq]))
  have hkl := rp.len
  first | refine body_all (.inr rfl) (by simp -implicitDefEqProofs; rfl) (by simp -implicitDefEqProofs; rfl) (by first | (simp; done) | (simp; omega) | omega) ?_ | refine body_all (.inl rfl) (by simp -implicitDefEqProofs; rfl) (by simp -implicitDefEqProofs; rfl) (by first | (simp; done) | (simp; omega) | omega) ?_
  exact ⟨rfl, rp.as rdReply Reply.c (fun p => ⟨p.1.1.1.2, p.1.1.2, p.1.2, p.2⟩) (fun _ => rfl) (fun _ => rfl)⟩
def rdSess : Spec Sess := mapS (fun p => ⟨p.1.1.2, p.1.2, p.2⟩) (seqS (seqS (seqS nopS rdNum) rdNum) rdReply)
theorem rsession_ok : Rds rv 74 [] [iv 0, iv 0, iv 0, .str [], iv 0, .list [] .full] rdSess Sess.c := by
  rintro h rid nrid tid cs off st hq hn1 hn2 ht hz hl
  have rp : RdP h rid nrid tid cs off st 0 nopS (fun _ => []) h := RdP.start off hq ht
  unfold rv
  refine acalls_of_awp Tryz.func74 rfl (by simp only [List.length_cons, List.length_nil]; decide) ?_
  simp only [params_cons, params_nil]
  (try refine awp_seq ?_)
  refine awp_draw (.q 0 (.q 1 (.q 2 (.q 3 (.q 4 (.q 5 (.q 6 (.a 7 (.done))))))))) (by kernel_rfl) (by kernel_rfl) (tree_start (goesT_eq (by simp -implicitDefEqProofs (disch := (first | omega | (simp; done) | fail)) [if_pos, if_neg, wrap_i64, tmod_pos, tdiv_pos, Int.toNat_add, rv]; rfl) ?_))
  obtain ⟨new, rq, hnl, r2, r3⟩ := rp.cut
  have hz' := RdP.z (m := 1) hz hnl (by simp) hl
  have hl' : off + 0 + 1 ≤ (V.over cs off new).length := by simp only [List.length_cons, List.length_nil, List.length_append, Nat.zero_add] at hnl hl; rw [over_len (by omega)]; omega
  have hbf : off + 0 ≤ cs.length := (by simp only [List.length_cons, List.length_nil, List.length_append, Nat.zero_add] at hl; omega)
  refine goesT_callS (callable_of Tryz.func137) (by simp -implicitDefEqProofs (disch := (first | omega | (simp; done) | fail)) [if_pos, if_neg, wrap_i64, tmod_pos, tdiv_pos, Int.toNat_add, rv, pm] <;> first | rfl | omega) _ ((mrnum_ok) _ rid nrid tid _ (off + 0) _ r3 hn1 hn2 r2 hz' hl') ?_
  rintro _ h' ⟨rfl, rp'⟩
  replace rp := RdP.go hbf rq rp'
  clear rq hnl r2 r3 rp' hz' hl' hbf
  refine zE ?_
  refine goesT_done ?_
  (try simp only [vq, if_true, reduceIte, Nat.reduceEqDiff, reduceCtorEq])
  (try refine awp_seq ?_)
  refine awp_draw (.q 0 (.q 1 (.q 2 (.q 3 (.q 4 (.q 5 (.q 6 (.a 7 (.done))))))))) (by kernel_rfl) (by kernel_rfl) (tree_start (goesT_eq (by simp -implicitDefEqProofs (disch := (first | omega | (simp; done) | fail)) [if_pos, if_neg, wrap_i64, tmod_pos, tdiv_pos, Int.toNat_add, rv]; rfl) ?_))
  obtain ⟨new, rq, hnl, r2, r3⟩ := rp.cut
  have hz' := RdP.z (m := 1) hz hnl (by simp) hl
  have hl' : off + 1 + 1 ≤ (V.over cs off new).length := by simp only [List.length_cons, List.length_nil, List.length_append, Nat.zero_add] at hnl hl; rw [over_len (by omega)]; omega
  have hbf : off + 1 ≤ cs.length := (by simp only [List.length_cons, List.length_nil, List.length_append, Nat.zero_add] at hl; omega)
  refine goesT_callS (callable_of Tryz.func137) (by simp -implicitDefEqProofs (disch := (first | omega | (simp; done) | fail)) [if_pos, if_neg, wrap_i64, tmod_pos, tdiv_pos, Int.toNat_add, rv, pm] <;> first | rfl | omega) _ ((mrnum_ok) _ rid nrid tid _ (off + 1) _ r3 hn1 hn2 r2 hz' hl') ?_
  rintro _ h' ⟨rfl, rp'⟩
  replace rp := RdP.go hbf rq rp'
  clear rq hnl r2 r3 rp' hz' hl' hbf
  refine zE ?_
  refine goesT_done ?_
  (try simp only [vq, if_true, reduceIte, Nat.reduceEqDiff, reduceCtorEq])
  repeat (first | ((first | refine zd ?_ | refine zx ?_ | refine zk ?_ | refine zl ?_ | refine zr ?_); refine zq ?_) | refine zs ?_ | refine zh (by simp -implicitDefEqProofs (disch := (first | omega | (simp; done) | fail)) [if_pos, if_neg, wrap_i64, tmod_pos, tdiv_pos, Int.toNat_add, rv]; rfl) ?_ | refine zb ?_ | refine zo ?_ | refine zt ?_ | refine zf ?_)
  obtain ⟨new, rq, hnl, r2, r3⟩ := rp.cut
  have hz' := RdP.z (m := 4) hz hnl (by simp) hl
  have hl' : off + 2 + 4 ≤ (V.over cs off new).length := by simp only [List.length_cons, List.length_nil, List.length_append, Nat.zero_add] at hnl hl; rw [over_len (by omega)]; omega
  have hbf : off + 2 ≤ cs.length := (by simp only [List.length_cons, List.length_nil, List.length_append, Nat.zero_add] at hl; omega)
  refine goes_callS (callable_of Tryz.func87) (by simp -implicitDefEqProofs (disch := (first | omega | (simp; done) | fail)) [if_pos, if_neg, wrap_i64, tmod_pos, tdiv_pos, Int.toNat_add, rv, pm, rv] <;> first | rfl | omega) _ ((rreply_ok) _ rid nrid tid _ (off + 2) _ r3 hn1 hn2 r2 hz' hl') ?_
  rintro _ h' ⟨rfl, rp'⟩
  replace rp := RdP.go hbf rq rp'
  clear rq hnl r2 r3 rp' hz' hl' hbf
  refine goes_eq (by simp -implicitDefEqProofs (disch := (first | omega | (simp; done) | fail)) [if_pos, if_neg, wrap_i64, tmod_pos, tdiv_pos, Int.toNat_add, rv]; rfl) ?_
  (refine goes_done ?_; (try simp only [vq, if_true, reduceIte, Nat.reduceEqDiff, reduceCtorEq]))
  have hkl := rp.len
  first | refine body_all (.inr rfl) (by simp -implicitDefEqProofs; rfl) (by simp -implicitDefEqProofs; rfl) (by first | (simp; done) | (simp; omega) | omega) ?_ | refine body_all (.inl rfl) (by simp -implicitDefEqProofs; rfl) (by simp -implicitDefEqProofs; rfl) (by first | (simp; done) | (simp; omega) | omega) ?_
  exact ⟨rfl, rp.as rdSess Sess.c (fun p => ⟨p.1.1.2, p.1.2, p.2⟩) (fun _ => rfl) (fun _ => rfl)⟩
theorem rsessions_ok : Rds rv 73 [.func (.func 74) [] []] [.list [] .full] (rdList rdSess) (fun xs => [.list (xs.map Sess.av) .no]) := by
    rintro h rid nrid tid cs off st hq hn1 hn2 ht hz hl
    have hc : cs[off]? = some (.list [] .full) := by
      have := congrArg (fun l => l[0]?) hz
      simpa using this
    unfold rv
    refine acalls_of_awp Tryz.func73 rfl (by simp only [List.length_cons, List.length_nil]; decide) ?_
    simp only [params_cons, params_nil]
    refine awp_seq ?_
    refine awp_draw (.q 0 (.q 1 (.q 2 (.q 5 (.q 6 (.q 7 (.a 3 (.q 4 (.a 8 (.q 9 (.done))))))))))) (by kernel_rfl) (by kernel_rfl) (tree_start (goesT_eq (by simp -implicitDefEqProofs (disch := (first | omega | (simp; done) | fail)) [if_pos, if_neg, wrap_i64, tmod_pos, tdiv_pos, Int.toNat_add, rv, ht, hc]; rfl) ?_))
    refine goesT_callS (callable_of Tryz.func138) (by simp -implicitDefEqProofs (disch := (first | omega | (simp; done) | fail)) [if_pos, if_neg, wrap_i64, tmod_pos, tdiv_pos, Int.toNat_add, pm] <;> first | rfl | omega) _ (msz_ok _ rid nrid st _ hq) ?_
    rintro _ h1 ⟨rfl, hq1, k1⟩
    have L0 : LSt h rid nrid tid cs off (runT rdSize st) rdSess Sess.av 6 0 (.list [] .full) 0 [] cs h1 := LSt.start k1 (Rq.tid k1 ht hn1 hn2) hc hq1
    have hN := size_le st
    generalize hNN : runV rdSize 0 st = N at hN
    refine zE ?_
    refine goesT_done ?_
    (try simp only [vq, if_true, reduceIte, Nat.reduceEqDiff, reduceCtorEq])
    repeat (first | ((first | refine zd ?_ | refine zx ?_ | refine zk ?_ | refine zl ?_ | refine zr ?_); refine zq ?_) | refine zs ?_ | refine zg ?_ | refine zb ?_ | refine zo ?_ | refine zt ?_ | refine zf ?_)
    refine awp_loop (fun z st' => ∃ (i : Nat) (h' : AHeap) (x : AV) (c : Nat) (cs0 c1 : List AV), z = N - i ∧ i ≤ N ∧ LSt h rid nrid tid cs off (runT rdSize st) rdSess Sess.av 6 i x c cs0 c1 h' ∧
      st'.le ⟨Tryz.f73.ntmps, [(0, rv rid), (1, .ptr tid off), (2, .func (.func 74) [] []), (7, .ptr rid 0), (8, .bool true), (25, .int .i64 N), (26, .int .i64 i)], h'⟩) N ?_ ?_
    rotate_left
    · rintro z st' ⟨i, h', x, c, cs0, c1, rfl, hi, L, hle⟩
      refine awp_le hle ?_
      unfold rv
      repeat (first | ((first | refine zd ?_ | refine zx ?_ | refine zk ?_ | refine zl ?_ | refine zr ?_); refine zq ?_) | refine zs ?_ | refine zg ?_ | refine zb ?_ | refine zo ?_ | refine zt ?_ | refine zf ?_)
      refine awp_cond rfl (fun h5 => ?_) (fun h5 => ?_)
      · simp at h5
        have L' := L
        obtain ⟨l1, l2, l3, l4, l5, l6, l7⟩ := L
        have hq0 := l5
        obtain ⟨lb, e1, e2, hr, hcr, hne, hsi, hll⟩ := l5
        by_cases he2 : e2 = 0
        · subst he2
          repeat (first | ((first | refine zd ?_ | refine zx ?_ | refine zk ?_ | refine zl ?_ | refine zr ?_); refine zq ?_) | refine zs ?_ | refine zh (by simp -implicitDefEqProofs (disch := (first | omega | (simp; done) | fail)) [if_pos, if_neg, wrap_i64, tmod_pos, tdiv_pos, Int.toNat_add, hcr]; rfl) ?_ | refine zb ?_ | refine zo ?_ | refine zt ?_ | refine zf ?_)
          refine goes_callS (callable_of Tryz.func85) (by simp -implicitDefEqProofs (disch := (first | omega | (simp; done) | fail)) [if_pos, if_neg, wrap_i64, tmod_pos, tdiv_pos, Int.toNat_add] <;> first | rfl | omega) _ (rleft_ok _ nrid lb e1 hr) ?_
          rintro _ h3 ⟨rfl, rfl⟩
          by_cases hlb : lb = []
          · have hsto : ∀ l, runT (rdN rdSess i) (runT rdSize st) = .ok l → l = [] := fun l hl => by rw [hl] at hsi; obtain ⟨-, -, h3⟩ := hsi; rw [h3, hlb]
            subst hlb
            refine ze ?_
            repeat (first | ((first | refine zd ?_ | refine zx ?_ | refine zk ?_ | refine zl ?_ | refine zr ?_); refine zq ?_) | refine zs ?_ | refine zg ?_ | refine zb ?_ | refine zo ?_ | refine zt ?_ | refine zf ?_)
            refine goes_callS (callable_of Tryz.func86) (by simp -implicitDefEqProofs (disch := (first | omega | (simp; done) | fail)) [if_pos, if_neg, wrap_i64, tmod_pos, tdiv_pos, Int.toNat_add] <;> first | rfl | omega) _ (mstop_ok _ rid nrid _ hq0) ?_
            rintro _ h2 ⟨rfl, hq2, k2⟩
            have hkl : h.length ≤ h2.length := Nat.le_trans l7.1 k2.1
            refine ze ?_
            repeat (first | ((first | refine zd ?_ | refine zx ?_ | refine zk ?_ | refine zl ?_ | refine zr ?_); refine zq ?_) | refine zs ?_ | refine zg ?_ | refine zb ?_ | refine zo ?_ | refine zt ?_ | refine zf ?_)
            first | refine body_all (.inr rfl) (by simp -implicitDefEqProofs; rfl) (by simp -implicitDefEqProofs; rfl) (by first | (simp; done) | (simp; omega) | omega) ?_ | refine body_all (.inl rfl) (by simp -implicitDefEqProofs; rfl) (by simp -implicitDefEqProofs; rfl) (by first | (simp; done) | (simp; omega) | omega) ?_
            exact ⟨rfl, LSt.stop L' (by omega) hsto hn1 hn2 hq2 k2⟩
          · have hlb' : ((lb.length : Int) == 0) = false := by simp [hlb]
            have hsto : runT (rdN rdSess i) (runT rdSize st) ≠ .ok [] := fun hl => by rw [hl] at hsi; obtain ⟨-, -, h3⟩ := hsi; exact hlb h3.symm
            refine goes_eq (by simp -implicitDefEqProofs (disch := (first | omega | (simp; done) | fail)) [if_pos, if_neg, wrap_i64, tmod_pos, tdiv_pos, Int.toNat_add, hlb', hlb]; rfl) ?_
            repeat (first | ((first | refine zd ?_ | refine zx ?_ | refine zk ?_ | refine zl ?_ | refine zr ?_); refine zq ?_) | refine zs ?_ | refine zg ?_ | refine zb ?_ | refine zo ?_ | refine zt ?_ | refine zf ?_)
            have ids := Rq.ids hq0
            have nr : ¬ rid = h3.length := by omega
            have ntl := (List.getElem?_eq_some_iff.1 l3).1
            have nt : ¬ tid = h3.length := by omega
            have nn : ¬ nrid = h3.length := by omega
            have hg : ∀ y, (h3 ++ y)[tid]? = some (.cells c1) := fun y => by rw [List.getElem?_append_left ntl]; exact l3
            clear ids ntl
            have hth := (List.getElem?_eq_some_iff.1 ht).1
            have hrn := Rq.ids hq
            refine awp_hard (id := h3.length) (by simp -implicitDefEqProofs; rfl) ?_
            simp -implicitDefEqProofs only [Slots.melt, AV.melt, Nat.add_left_cancel_iff, Nat.add_eq_left, Nat.left_eq_add, Nat.reduceEqDiff, reduceIte, Nat.succ_ne_self, Nat.one_ne_zero, Nat.zero_ne_one, List.set_append_right, List.set_append_left, Nat.sub_self, Nat.le_refl, Nat.add_sub_cancel_left, Nat.le_add_right, List.set_cons_zero, List.set_cons_succ, if_neg nr, if_neg nt, if_neg nn]
            have hget : c1[off]? = some x := by rw [l4]; exact over_get (by simp at hl; omega)
            refine awp_mid (fun st' => ∃ (aid c' : Nat) (cs1 c1' : List AV) (h4 : AHeap), LMid h rid nrid tid cs off (runT rdSize st) rdSess Sess.av 6 i [iv 0, iv 0, iv 0, AV.str [], iv 0, AV.list [] .full] aid c' cs1 c1' h4 ∧
              st'.le ⟨Tryz.f73.ntmps, [(0, rv rid), (1, .ptr tid off), (2, .func (.func 74) [] []), (7, .ptr rid 0), (8, .bool true), (9, .int .i64 i), (25, .int .i64 N), (26, .int .i64 i)], h4⟩) ?_ ?_
            · rintro st' ⟨aid, c', cs1, c1', h4, M, hle⟩
              refine awp_le hle ?_
              have M' := M
              obtain ⟨m1, m2, m3, m4, m5, m6, m7, m8, m9, m10⟩ := M
              have mget : c1'[off]? = some (.arr aid 0 (i + 1) c') := by rw [m7]; exact over_get (by simp only [List.length_singleton] at hl; exact hl)
              have i1 : i < i + 1 := Nat.lt_succ_self i
              clear hle m7
              unfold rv
              repeat (first | ((first | refine zd ?_ | refine zx ?_ | refine zk ?_ | refine zl ?_ | refine zr ?_); refine zq ?_) | refine zs ?_ | refine zh (by simp -implicitDefEqProofs (disch := (first | omega | (simp; done) | fail)) [if_pos, if_neg, wrap_i64, tmod_pos, tdiv_pos, Int.toNat_add, m6, mget, i1]; rfl) ?_ | refine zb ?_ | refine zo ?_ | refine zt ?_ | refine zf ?_)
              clear mget i1
              have hmul : i * 6 + 6 ≤ c' * 6 := by omega
              refine goes_callS (callable_of Tryz.func74) (by simp -implicitDefEqProofs (disch := (first | omega | (simp; done) | fail)) [if_pos, if_neg, wrap_i64, tmod_pos, tdiv_pos, Int.toNat_add, rv] <;> first | rfl | omega) _ (rsession_ok h4 rid nrid aid cs1 (i * 6) _ m8 (by omega) (by omega) m1 m4 (by rw [m2]; exact hmul)) ?_
              rintro _ h5' ⟨rfl, rp⟩
              obtain ⟨cs2, L2⟩ := LMid.step M' hsto (cf := Sess.c) (fun a => by simp [Sess.av]) hth hn1 hn2 rp
              clear rp m8 m6 m1 M'
              have hi1 : i + 1 ≤ N := h5
              have h21 : N - (i + 1) < N - i := by omega
              refine goes_eq (by simp -implicitDefEqProofs (disch := (first | omega | (simp; done) | fail)) [if_pos, if_neg, wrap_i64, tmod_pos, tdiv_pos, Int.toNat_add, rv]; rfl) ?_
              repeat (first | ((first | refine zd ?_ | refine zx ?_ | refine zk ?_ | refine zl ?_ | refine zr ?_); refine zq ?_) | refine zs ?_ | refine zh (by simp -implicitDefEqProofs (disch := (first | omega | (simp; done) | fail)) [if_pos, if_neg, wrap_i64, tmod_pos, tdiv_pos, Int.toNat_add, rv]; rfl) ?_ | refine zb ?_ | refine zo ?_ | refine zt ?_ | refine zf ?_)
              exact ⟨N - (i + 1), h21, i + 1, h5', _, c', cs2, c1', rfl, hi1, L2, st_keep' (by simp [rv]) (by simp [rv])⟩
            refine awp_drawS (graft (.a 6 (.q 7 (.a 8 .done))) (.q 0 (.q 1 (.q 2 (.q 4 (.two 3 5 (.a 5 .done) (.a 3 .done))))))) (by kernel_rfl) (by kernel_rfl) (tree_graft (tree_start (goesT_eq (by simp -implicitDefEqProofs (disch := (first | omega | (simp; done) | fail)) [if_pos, if_neg, l3, hget]; rfl) ?_)))
            refine goesT_two (goesT_eq (by simp -implicitDefEqProofs (disch := (first | omega | (simp; done) | fail)) [if_pos, if_neg, wrap_i64, tmod_pos, tdiv_pos, Int.toNat_add, hg, hget]; rfl) ?_) (goesT_eq (by simp -implicitDefEqProofs (disch := (first | omega | (simp; done) | fail)) [if_pos, if_neg, wrap_i64, tmod_pos, tdiv_pos, Int.toNat_add, hg, hget]; rfl) ?_)
            · refine goesT_done ?_
              (try simp only [vq, if_true, reduceIte, Nat.reduceEqDiff, reduceCtorEq])
              have hoff : off < cs.length := by simp only [List.length_singleton] at hl; exact hl
              have hl1 : off + 1 ≤ c1.length := by rw [l4, over_len (by simp only [List.length_singleton]; exact hoff)]; exact hoff
              refine treeS_append (k := 6) (by_ := 72) (m := i) (c := c) (cs := cs0) (zc := [iv 0, iv 0, iv 0, AV.str [], iv 0, AV.list [] .full]) (z := (AV.agg [iv 0, iv 0, iv 0, .str [], iv 0, .list [] .full])) rfl rfl rfl (by simp; rfl) (by simp) (by simp) (by simp [iv]) rfl (by decide) rfl (by simp) (row_app l1 _) (by simp [iv]) (by omega) (by omega) ?_
              refine ⟨fun hic id hx => ?_, fun hic c' u hc' hu => ?_⟩
              · have hx' : x = .arr id 0 i c := hx
                clear hx
                subst hx'
                have hid := l2 id 0 i c rfl
                have hs1 : ∀ o, ((h3 ++ [AObj.dead]).set id o)[tid]? = some (.cells c1) := fun o => by rw [List.getElem?_set_ne (by omega)]; exact hg _
                refine tree_s (tree_start (goesT_eq (by simp -implicitDefEqProofs (disch := (first | omega | (simp; done) | fail)) [hs1, hl1]; rfl) ?_))
                refine goesT_done ?_
                (try simp only [vq, if_true, reduceIte, Nat.reduceEqDiff, reduceCtorEq])
                exact ⟨_, _, _, _, _, LSt.room (z := [iv 0, iv 0, iv 0, AV.str [], iv 0, AV.list [] .full]) L' hic hth hrn rfl hoff hn1 hn2 [.dead], st_keep' (by simp [rv]) (by simp [rv])⟩
              · refine tree_s (tree_start (goesT_eq (by simp -implicitDefEqProofs (disch := (first | omega | (simp; done) | fail)) [hg, hl1]; rfl) ?_))
                refine goesT_done ?_
                (try simp only [vq, if_true, reduceIte, Nat.reduceEqDiff, reduceCtorEq])
                have M := LSt.grow (z := [iv 0, iv 0, iv 0, AV.str [], iv 0, AV.list [] .full]) L' hic hth hrn rfl hoff hn1 hn2 [.dead] hc' hu
                exact ⟨_, _, _, _, _, M, st_keep' (by simp [rv]) (by simp [rv])⟩
            · refine goesT_done ?_
              (try simp only [vq, if_true, reduceIte, Nat.reduceEqDiff, reduceCtorEq])
              have hoff : off < cs.length := by simp only [List.length_singleton] at hl; exact hl
              have hl1 : off + 1 ≤ c1.length := by rw [l4, over_len (by simp only [List.length_singleton]; exact hoff)]; exact hoff
              refine treeS_append (k := 6) (by_ := 72) (m := i) (c := c) (cs := cs0) (zc := [iv 0, iv 0, iv 0, AV.str [], iv 0, AV.list [] .full]) (z := (AV.agg [iv 0, iv 0, iv 0, .str [], iv 0, .list [] .full])) rfl rfl rfl (by simp; rfl) (by simp) (by simp) (by simp [iv]) rfl (by decide) rfl (by simp) (row_app l1 _) (by simp [iv]) (by omega) (by omega) ?_
              refine ⟨fun hic id hx => ?_, fun hic c' u hc' hu => ?_⟩
              · have hx' : x = .arr id 0 i c := hx
                clear hx
                subst hx'
                have hid := l2 id 0 i c rfl
                have hs1 : ∀ o, ((h3 ++ [AObj.dead]).set id o)[tid]? = some (.cells c1) := fun o => by rw [List.getElem?_set_ne (by omega)]; exact hg _
                refine tree_s (tree_start (goesT_eq (by simp -implicitDefEqProofs (disch := (first | omega | (simp; done) | fail)) [hs1, hl1]; rfl) ?_))
                refine goesT_done ?_
                (try simp only [vq, if_true, reduceIte, Nat.reduceEqDiff, reduceCtorEq])
                exact ⟨_, _, _, _, _, LSt.room (z := [iv 0, iv 0, iv 0, AV.str [], iv 0, AV.list [] .full]) L' hic hth hrn rfl hoff hn1 hn2 [.dead], st_keep' (by simp [rv]) (by simp [rv])⟩
              · refine tree_s (tree_start (goesT_eq (by simp -implicitDefEqProofs (disch := (first | omega | (simp; done) | fail)) [hg, hl1]; rfl) ?_))
                refine goesT_done ?_
                (try simp only [vq, if_true, reduceIte, Nat.reduceEqDiff, reduceCtorEq])
                have M := LSt.grow (z := [iv 0, iv 0, iv 0, AV.str [], iv 0, AV.list [] .full]) L' hic hth hrn rfl hoff hn1 hn2 [.dead] hc' hu
                exact ⟨_, _, _, _, _, M, st_keep' (by simp [rv]) (by simp [rv])⟩
        · have he3 : ((e2 : Int) != 0) = true := by simp; omega
          have hsto : ∀ l, runT (rdN rdSess i) (runT rdSize st) = .ok l → l = [] := fun l hl => by rw [hl] at hsi; obtain ⟨-, h3, -⟩ := hsi; exact absurd h3 he2
          repeat (first | ((first | refine zd ?_ | refine zx ?_ | refine zk ?_ | refine zl ?_ | refine zr ?_); refine zq ?_) | refine zs ?_ | refine zh (by simp -implicitDefEqProofs (disch := (first | omega | (simp; done) | fail)) [if_pos, if_neg, wrap_i64, tmod_pos, tdiv_pos, Int.toNat_add, hcr, he3]; rfl) ?_ | refine zb ?_ | refine zo ?_ | refine zt ?_ | refine zf ?_)
          refine goes_callS (callable_of Tryz.func86) (by simp -implicitDefEqProofs (disch := (first | omega | (simp; done) | fail)) [if_pos, if_neg, wrap_i64, tmod_pos, tdiv_pos, Int.toNat_add] <;> first | rfl | omega) _ (mstop_ok _ rid nrid _ hq0) ?_
          rintro _ h2 ⟨rfl, hq2, k2⟩
          have hkl : h.length ≤ h2.length := Nat.le_trans l7.1 k2.1
          refine ze ?_
          repeat (first | ((first | refine zd ?_ | refine zx ?_ | refine zk ?_ | refine zl ?_ | refine zr ?_); refine zq ?_) | refine zs ?_ | refine zg ?_ | refine zb ?_ | refine zo ?_ | refine zt ?_ | refine zf ?_)
          first | refine body_all (.inr rfl) (by simp -implicitDefEqProofs; rfl) (by simp -implicitDefEqProofs; rfl) (by first | (simp; done) | (simp; omega) | omega) ?_ | refine body_all (.inl rfl) (by simp -implicitDefEqProofs; rfl) (by simp -implicitDefEqProofs; rfl) (by first | (simp; done) | (simp; omega) | omega) ?_
          exact ⟨rfl, LSt.stop L' (by omega) hsto hn1 hn2 hq2 k2⟩
      · simp at h5
        obtain rfl : i = N := by omega
        clear h5 hle hi
        cases hs : runT (rdN rdSess i) (runT rdSize st) with
        | error e =>
          have rp := LSt.bad L hNN.symm hs
          have hkl := L.2.2.2.2.2.2.1
          clear L hq
          repeat (first | ((first | refine zd ?_ | refine zx ?_ | refine zk ?_ | refine zl ?_ | refine zr ?_); refine zq ?_) | refine zs ?_ | refine zg ?_ | refine zb ?_ | refine zo ?_ | refine zt ?_ | refine zf ?_)
          first | refine body_all (.inr rfl) (by simp -implicitDefEqProofs; rfl) (by simp -implicitDefEqProofs; rfl) (by first | (simp; done) | (simp; omega) | omega) ?_ | refine body_all (.inl rfl) (by simp -implicitDefEqProofs; rfl) (by simp -implicitDefEqProofs; rfl) (by first | (simp; done) | (simp; omega) | omega) ?_
          exact ⟨rfl, rp⟩
        | ok l =>
          obtain ⟨l0, p, g1, g2⟩ := runT_ok hs
          have L' := L
          obtain ⟨l1, l2, l3, l4, l5, l6, l7⟩ := L
          obtain ⟨p1, p2⟩ := l6 _ _ g1 g2
          have hoff : off < cs.length := by simp only [List.length_singleton] at hl; exact hl
          have htl := (List.getElem?_eq_some_iff.1 l3).1
          have hget : c1[off]? = some x := by rw [l4]; exact over_get hoff
          cases l1 with
          | nil =>
            have hp : p.1 = [] := List.length_eq_zero_iff.1 p1
            refine awp_soften l3 hget ?_
            have rp := LSt.fin (h2 := h'.set tid (.cells (c1.set off (.list [] .no)))) L' hNN.symm g1 g2 hoff (l5.put hn1 hn2) (by rw [hp]; exact List.getElem?_set_self htl) (l7.trans (Kept.one (.inr (.inr rfl)) _))
            have hkl := l7.1
            clear L' l3 l5 l6 l7 hget htl hoff
            repeat (first | ((first | refine zd ?_ | refine zx ?_ | refine zk ?_ | refine zl ?_ | refine zr ?_); refine zq ?_) | refine zs ?_ | refine zg ?_ | refine zb ?_ | refine zo ?_ | refine zt ?_ | refine zf ?_)
            first | refine body_all (.inr rfl) (by simp -implicitDefEqProofs; rfl) (by simp -implicitDefEqProofs; rfl) (by first | (simp; done) | (simp; omega) | omega) ?_ | refine body_all (.inl rfl) (by simp -implicitDefEqProofs; rfl) (by simp -implicitDefEqProofs; rfl) (by first | (simp; done) | (simp; omega) | omega) ?_
            exact ⟨rfl, rp⟩
          | arr id n c _ ho hcl hn h0 =>
            have hth := (List.getElem?_eq_some_iff.1 ht).1
            have hrn := Rq.ids hq
            have hid := l2 id 0 i c rfl
            refine awp_fixk (k := 6) (xs := p.1.map Sess.av) ho p2 (by simp [p1]) (sesl_uni _) (by decide) (by omega) l3 hget (by omega) ?_
            have rp := LSt.fin (h2 := (h'.set id .dead).set tid (.cells (c1.set off (.list (p.1.map Sess.av) .no)))) L' hNN.symm g1 g2 hoff ((l5.put (by omega) (by omega)).put hn1 hn2) (List.getElem?_set_self (by simp; exact htl))
              ⟨by have := l7.1; simp; omega, fun j hj hn => (by rw [List.getElem?_set_ne (fun e => hn (.inr (.inr e.symm))), List.getElem?_set_ne (by omega)]; exact l7.2.1 j hj hn), fun j hj => .inl hj⟩
            have hkl := l7.1
            clear L' l3 l5 l6 l7 hget htl hoff
            repeat (first | ((first | refine zd ?_ | refine zx ?_ | refine zk ?_ | refine zl ?_ | refine zr ?_); refine zq ?_) | refine zs ?_ | refine zg ?_ | refine zb ?_ | refine zo ?_ | refine zt ?_ | refine zf ?_)
            first | refine body_all (.inr rfl) (by simp -implicitDefEqProofs; rfl) (by simp -implicitDefEqProofs; rfl) (by first | (simp; done) | (simp; omega) | omega) ?_ | refine body_all (.inl rfl) (by simp -implicitDefEqProofs; rfl) (by simp -implicitDefEqProofs; rfl) (by first | (simp; done) | (simp; omega) | omega) ?_
            exact ⟨rfl, rp⟩
    · exact ⟨0, _, _, _, _, _, rfl, by omega, L0, st_keep' (by simp [rv]) (by simp [rv])⟩
def rdSnap : Spec Snap := mapS (fun p => ⟨p.1.1.1.2, p.1.1.2, p.1.2, p.2⟩) (seqS (seqS (seqS (seqS nopS rdNum) (rdList rdN1)) (rdList rdEntry)) (rdList rdSess))
theorem rsnap_ok : Rds rv 54 [] [iv 0, .list [] .full, .list [] .full, .list [] .full] rdSnap Snap.c := by
  rintro h rid nrid tid cs off st hq hn1 hn2 ht hz hl
  have rp : RdP h rid nrid tid cs off st 0 nopS (fun _ => []) h := RdP.start off hq ht
  unfold rv
  refine acalls_of_awp Tryz.func54 rfl (by simp only [List.length_cons, List.length_nil]; decide) ?_
  simp only [params_cons, params_nil]
  (try refine awp_seq ?_)
  refine awp_draw (.q 0 (.q 1 (.q 2 (.q 3 (.q 4 (.q 5 (.q 6 (.q 7 (.a 8 (.done)))))))))) (by kernel_rfl) (by kernel_rfl) (tree_start (goesT_eq (by simp -implicitDefEqProofs (disch := (first | omega | (simp; done) | fail)) [if_pos, if_neg, wrap_i64, tmod_pos, tdiv_pos, Int.toNat_add, rv]; rfl) ?_))
  obtain ⟨new, rq, hnl, r2, r3⟩ := rp.cut
  have hz' := RdP.z (m := 1) hz hnl (by simp) hl
  have hl' : off + 0 + 1 ≤ (V.over cs off new).length := by simp only [List.length_cons, List.length_nil, List.length_append, Nat.zero_add] at hnl hl; rw [over_len (by omega)]; omega
  have hbf : off + 0 ≤ cs.length := (by simp only [List.length_cons, List.length_nil, List.length_append, Nat.zero_add] at hl; omega)
  refine goesT_callS (callable_of Tryz.func137) (by simp -implicitDefEqProofs (disch := (first | omega | (simp; done) | fail)) [if_pos, if_neg, wrap_i64, tmod_pos, tdiv_pos, Int.toNat_add, rv, pm] <;> first | rfl | omega) _ ((mrnum_ok) _ rid nrid tid _ (off + 0) _ r3 hn1 hn2 r2 hz' hl') ?_
  rintro _ h' ⟨rfl, rp'⟩
  replace rp := RdP.go hbf rq rp'
  clear rq hnl r2 r3 rp' hz' hl' hbf
  refine zE ?_
  refine goesT_done ?_
  (try simp only [vq, if_true, reduceIte, Nat.reduceEqDiff, reduceCtorEq])
  repeat (first | ((first | refine zd ?_ | refine zx ?_ | refine zk ?_ | refine zl ?_ | refine zr ?_); refine zq ?_) | refine zs ?_ | refine zh (by simp -implicitDefEqProofs (disch := (first | omega | (simp; done) | fail)) [if_pos, if_neg, wrap_i64, tmod_pos, tdiv_pos, Int.toNat_add, rv]; rfl) ?_ | refine zb ?_ | refine zo ?_ | refine zt ?_ | refine zf ?_)
  obtain ⟨new, rq, hnl, r2, r3⟩ := rp.cut
  have hz' := RdP.z (m := 1) hz hnl (by simp) hl
  have hl' : off + 1 + 1 ≤ (V.over cs off new).length := by simp only [List.length_cons, List.length_nil, List.length_append, Nat.zero_add] at hnl hl; rw [over_len (by omega)]; omega
  have hbf : off + 1 ≤ cs.length := (by simp only [List.length_cons, List.length_nil, List.length_append, Nat.zero_add] at hl; omega)
  refine goes_callS (callable_of Tryz.func69) (by simp -implicitDefEqProofs (disch := (first | omega | (simp; done) | fail)) [if_pos, if_neg, wrap_i64, tmod_pos, tdiv_pos, Int.toNat_add, rv, pm, rv] <;> first | rfl | omega) _ ((rnums_ok) _ rid nrid tid _ (off + 1) _ r3 hn1 hn2 r2 hz' hl') ?_
  rintro _ h' ⟨rfl, rp'⟩
  replace rp := RdP.go hbf rq rp'
  clear rq hnl r2 r3 rp' hz' hl' hbf
  refine goes_eq (by simp -implicitDefEqProofs (disch := (first | omega | (simp; done) | fail)) [if_pos, if_neg, wrap_i64, tmod_pos, tdiv_pos, Int.toNat_add, rv]; rfl) ?_
  (refine goes_done ?_; (try simp only [vq, if_true, reduceIte, Nat.reduceEqDiff, reduceCtorEq]))
  repeat (first | ((first | refine zd ?_ | refine zx ?_ | refine zk ?_ | refine zl ?_ | refine zr ?_); refine zq ?_) | refine zs ?_ | refine zh (by simp -implicitDefEqProofs (disch := (first | omega | (simp; done) | fail)) [if_pos, if_neg, wrap_i64, tmod_pos, tdiv_pos, Int.toNat_add, rv]; rfl) ?_ | refine zb ?_ | refine zo ?_ | refine zt ?_ | refine zf ?_)
  obtain ⟨new, rq, hnl, r2, r3⟩ := rp.cut
  have hz' := RdP.z (m := 1) hz hnl (by simp) hl
  have hl' : off + 2 + 1 ≤ (V.over cs off new).length := by simp only [List.length_cons, List.length_nil, List.length_append, Nat.zero_add] at hnl hl; rw [over_len (by omega)]; omega
  have hbf : off + 2 ≤ cs.length := (by simp only [List.length_cons, List.length_nil, List.length_append, Nat.zero_add] at hl; omega)
  refine goes_callS (callable_of Tryz.func71) (by simp -implicitDefEqProofs (disch := (first | omega | (simp; done) | fail)) [if_pos, if_neg, wrap_i64, tmod_pos, tdiv_pos, Int.toNat_add, rv, pm, rv] <;> first | rfl | omega) _ ((rentries_ok) _ rid nrid tid _ (off + 2) _ r3 hn1 hn2 r2 hz' hl') ?_
  rintro _ h' ⟨rfl, rp'⟩
  replace rp := RdP.go hbf rq rp'
  clear rq hnl r2 r3 rp' hz' hl' hbf
  refine goes_eq (by simp -implicitDefEqProofs (disch := (first | omega | (simp; done) | fail)) [if_pos, if_neg, wrap_i64, tmod_pos, tdiv_pos, Int.toNat_add, rv]; rfl) ?_
  (refine goes_done ?_; (try simp only [vq, if_true, reduceIte, Nat.reduceEqDiff, reduceCtorEq]))
  repeat (first | ((first | refine zd ?_ | refine zx ?_ | refine zk ?_ | refine zl ?_ | refine zr ?_); refine zq ?_) | refine zs ?_ | refine zh (by simp -implicitDefEqProofs (disch := (first | omega | (simp; done) | fail)) [if_pos, if_neg, wrap_i64, tmod_pos, tdiv_pos, Int.toNat_add, rv]; rfl) ?_ | refine zb ?_ | refine zo ?_ | refine zt ?_ | refine zf ?_)
  obtain ⟨new, rq, hnl, r2, r3⟩ := rp.cut
  have hz' := RdP.z (m := 1) hz hnl (by simp) hl
  have hl' : off + 3 + 1 ≤ (V.over cs off new).length := by simp only [List.length_cons, List.length_nil, List.length_append, Nat.zero_add] at hnl hl; rw [over_len (by omega)]; omega
  have hbf : off + 3 ≤ cs.length := (by simp only [List.length_cons, List.length_nil, List.length_append, Nat.zero_add] at hl; omega)
  refine goes_callS (callable_of Tryz.func73) (by simp -implicitDefEqProofs (disch := (first | omega | (simp; done) | fail)) [if_pos, if_neg, wrap_i64, tmod_pos, tdiv_pos, Int.toNat_add, rv, pm, rv] <;> first | rfl | omega) _ ((rsessions_ok) _ rid nrid tid _ (off + 3) _ r3 hn1 hn2 r2 hz' hl') ?_
  rintro _ h' ⟨rfl, rp'⟩
  replace rp := RdP.go hbf rq rp'
  clear rq hnl r2 r3 rp' hz' hl' hbf
  refine goes_eq (by simp -implicitDefEqProofs (disch := (first | omega | (simp; done) | fail)) [if_pos, if_neg, wrap_i64, tmod_pos, tdiv_pos, Int.toNat_add, rv]; rfl) ?_
  (refine goes_done ?_; (try simp only [vq, if_true, reduceIte, Nat.reduceEqDiff, reduceCtorEq]))
  have hkl := rp.len
  first | refine body_all (.inr rfl) (by simp -implicitDefEqProofs; rfl) (by simp -implicitDefEqProofs; rfl) (by first | (simp; done) | (simp; omega) | omega) ?_ | refine body_all (.inl rfl) (by simp -implicitDefEqProofs; rfl) (by simp -implicitDefEqProofs; rfl) (by first | (simp; done) | (simp; omega) | omega) ?_
  exact ⟨rfl, rp.as rdSnap Snap.c (fun p => ⟨p.1.1.1.2, p.1.1.2, p.1.2, p.2⟩) (fun _ => rfl) (fun _ => rfl)⟩
def rdInst : Spec Inst := mapS (fun p => ⟨p.1.1.1.1.1.2, p.1.1.1.1.2, p.1.1.1.2, p.1.1.2, p.1.2, p.2⟩) (seqS (seqS (seqS (seqS (seqS (seqS nopS rdNum) rdBal) rdBal) rdCmd) rdNum) (rdList rdId))
theorem rinst_ok : Rds rv 56 [] [iv 0, iv 0, iv 0, iv 0, iv 0, iv 0, iv 0, iv 0, .str [], .str [], iv 0, iv 0, iv 0, iv 0, .list [] .full] rdInst Inst.c := by
  rintro h rid nrid tid cs off st hq hn1 hn2 ht hz hl
  have rp : RdP h rid nrid tid cs off st 0 nopS (fun _ => []) h := RdP.start off hq ht
  unfold rv
  refine acalls_of_awp Tryz.func56 rfl (by simp only [List.length_cons, List.length_nil]; decide) ?_
  simp only [params_cons, params_nil]
  repeat (first | ((first | refine zd ?_ | refine zx ?_ | refine zk ?_ | refine zl ?_ | refine zr ?_); refine zq ?_) | refine zs ?_ | refine zh (by simp -implicitDefEqProofs (disch := (first | omega | (simp; done) | fail)) [if_pos, if_neg, wrap_i64, tmod_pos, tdiv_pos, Int.toNat_add, rv]; rfl) ?_ | refine zb ?_ | refine zo ?_ | refine zt ?_ | refine zf ?_)
  obtain ⟨new, rq, hnl, r2, r3⟩ := rp.cut
  have hz' := RdP.z (m := 1) hz hnl (by simp) hl
  have hl' : off + 0 + 1 ≤ (V.over cs off new).length := by simp only [List.length_cons, List.length_nil, List.length_append, Nat.zero_add] at hnl hl; rw [over_len (by omega)]; omega
  have hbf : off + 0 ≤ cs.length := (by simp only [List.length_cons, List.length_nil, List.length_append, Nat.zero_add] at hl; omega)
  refine goes_callS (callable_of Tryz.func75) (by simp -implicitDefEqProofs (disch := (first | omega | (simp; done) | fail)) [if_pos, if_neg, wrap_i64, tmod_pos, tdiv_pos, Int.toNat_add, rv, pm, rv] <;> first | rfl | omega) _ ((rasStatus_ok) _ rid nrid tid _ (off + 0) _ r3 hn1 hn2 r2 hz' hl') ?_
  rintro _ h' ⟨rfl, rp'⟩
  replace rp := RdP.go hbf rq rp'
  clear rq hnl r2 r3 rp' hz' hl' hbf
  refine goes_eq (by simp -implicitDefEqProofs (disch := (first | omega | (simp; done) | fail)) [if_pos, if_neg, wrap_i64, tmod_pos, tdiv_pos, Int.toNat_add, rv]; rfl) ?_
  (refine goes_done ?_; (try simp only [vq, if_true, reduceIte, Nat.reduceEqDiff, reduceCtorEq]))
  repeat (first | ((first | refine zd ?_ | refine zx ?_ | refine zk ?_ | refine zl ?_ | refine zr ?_); refine zq ?_) | refine zs ?_ | refine zh (by simp -implicitDefEqProofs (disch := (first | omega | (simp; done) | fail)) [if_pos, if_neg, wrap_i64, tmod_pos, tdiv_pos, Int.toNat_add, rv]; rfl) ?_ | refine zb ?_ | refine zo ?_ | refine zt ?_ | refine zf ?_)
  obtain ⟨new, rq, hnl, r2, r3⟩ := rp.cut
  have hz' := RdP.z (m := 2) hz hnl (by simp) hl
  have hl' : off + 1 + 2 ≤ (V.over cs off new).length := by simp only [List.length_cons, List.length_nil, List.length_append, Nat.zero_add] at hnl hl; rw [over_len (by omega)]; omega
  have hbf : off + 1 ≤ cs.length := (by simp only [List.length_cons, List.length_nil, List.length_append, Nat.zero_add] at hl; omega)
  refine goes_callS (callable_of Tryz.func76) (by simp -implicitDefEqProofs (disch := (first | omega | (simp; done) | fail)) [if_pos, if_neg, wrap_i64, tmod_pos, tdiv_pos, Int.toNat_add, rv, pm, rv] <;> first | rfl | omega) _ ((rballot_ok) _ rid nrid tid _ (off + 1) _ r3 hn1 hn2 r2 hz' hl') ?_
  rintro _ h' ⟨rfl, rp'⟩
  replace rp := RdP.go hbf rq rp'
  clear rq hnl r2 r3 rp' hz' hl' hbf
  refine goes_eq (by simp -implicitDefEqProofs (disch := (first | omega | (simp; done) | fail)) [if_pos, if_neg, wrap_i64, tmod_pos, tdiv_pos, Int.toNat_add, rv]; rfl) ?_
  (refine goes_done ?_; (try simp only [vq, if_true, reduceIte, Nat.reduceEqDiff, reduceCtorEq]))
  repeat (first | ((first | refine zd ?_ | refine zx ?_ | refine zk ?_ | refine zl ?_ | refine zr ?_); refine zq ?_) | refine zs ?_ | refine zh (by simp -implicitDefEqProofs (disch := (first | omega | (simp; done) | fail)) [if_pos, if_neg, wrap_i64, tmod_pos, tdiv_pos, Int.toNat_add, rv]; rfl) ?_ | refine zb ?_ | refine zo ?_ | refine zt ?_ | refine zf ?_)
  obtain ⟨new, rq, hnl, r2, r3⟩ := rp.cut
  have hz' := RdP.z (m := 2) hz hnl (by simp) hl
  have hl' : off + 3 + 2 ≤ (V.over cs off new).length := by simp only [List.length_cons, List.length_nil, List.length_append, Nat.zero_add] at hnl hl; rw [over_len (by omega)]; omega
  have hbf : off + 3 ≤ cs.length := (by simp only [List.length_cons, List.length_nil, List.length_append, Nat.zero_add] at hl; omega)
  refine goes_callS (callable_of Tryz.func76) (by simp -implicitDefEqProofs (disch := (first | omega | (simp; done) | fail)) [if_pos, if_neg, wrap_i64, tmod_pos, tdiv_pos, Int.toNat_add, rv, pm, rv] <;> first | rfl | omega) _ ((rballot_ok) _ rid nrid tid _ (off + 3) _ r3 hn1 hn2 r2 hz' hl') ?_
  rintro _ h' ⟨rfl, rp'⟩
  replace rp := RdP.go hbf rq rp'
  clear rq hnl r2 r3 rp' hz' hl' hbf
  refine goes_eq (by simp -implicitDefEqProofs (disch := (first | omega | (simp; done) | fail)) [if_pos, if_neg, wrap_i64, tmod_pos, tdiv_pos, Int.toNat_add, rv]; rfl) ?_
  (refine goes_done ?_; (try simp only [vq, if_true, reduceIte, Nat.reduceEqDiff, reduceCtorEq]))
  repeat (first | ((first | refine zd ?_ | refine zx ?_ | refine zk ?_ | refine zl ?_ | refine zr ?_); refine zq ?_) | refine zs ?_ | refine zh (by simp -implicitDefEqProofs (disch := (first | omega | (simp; done) | fail)) [if_pos, if_neg, wrap_i64, tmod_pos, tdiv_pos, Int.toNat_add, rv]; rfl) ?_ | refine zb ?_ | refine zo ?_ | refine zt ?_ | refine zf ?_)
  obtain ⟨new, rq, hnl, r2, r3⟩ := rp.cut
  have hz' := RdP.z (m := 8) hz hnl (by simp) hl
  have hl' : off + 5 + 8 ≤ (V.over cs off new).length := by simp only [List.length_cons, List.length_nil, List.length_append, Nat.zero_add] at hnl hl; rw [over_len (by omega)]; omega
  have hbf : off + 5 ≤ cs.length := (by simp only [List.length_cons, List.length_nil, List.length_append, Nat.zero_add] at hl; omega)
  refine goes_callS (callable_of Tryz.func77) (by simp -implicitDefEqProofs (disch := (first | omega | (simp; done) | fail)) [if_pos, if_neg, wrap_i64, tmod_pos, tdiv_pos, Int.toNat_add, rv, pm, rv] <;> first | rfl | omega) _ ((rcommand_ok) _ rid nrid tid _ (off + 5) _ r3 hn1 hn2 r2 hz' hl') ?_
  rintro _ h' ⟨rfl, rp'⟩
  replace rp := RdP.go hbf rq rp'
  clear rq hnl r2 r3 rp' hz' hl' hbf
  refine goes_eq (by simp -implicitDefEqProofs (disch := (first | omega | (simp; done) | fail)) [if_pos, if_neg, wrap_i64, tmod_pos, tdiv_pos, Int.toNat_add, rv]; rfl) ?_
  (refine goes_done ?_; (try simp only [vq, if_true, reduceIte, Nat.reduceEqDiff, reduceCtorEq]))
  (try refine awp_seq ?_)
  refine awp_draw (.q 0 (.q 1 (.q 2 (.q 3 (.q 4 (.q 5 (.q 6 (.q 7 (.a 8 (.done)))))))))) (by kernel_rfl) (by kernel_rfl) (tree_start (goesT_eq (by simp -implicitDefEqProofs (disch := (first | omega | (simp; done) | fail)) [if_pos, if_neg, wrap_i64, tmod_pos, tdiv_pos, Int.toNat_add, rv]; rfl) ?_))
  obtain ⟨new, rq, hnl, r2, r3⟩ := rp.cut
  have hz' := RdP.z (m := 1) hz hnl (by simp) hl
  have hl' : off + 13 + 1 ≤ (V.over cs off new).length := by simp only [List.length_cons, List.length_nil, List.length_append, Nat.zero_add] at hnl hl; rw [over_len (by omega)]; omega
  have hbf : off + 13 ≤ cs.length := (by simp only [List.length_cons, List.length_nil, List.length_append, Nat.zero_add] at hl; omega)
  refine goesT_callS (callable_of Tryz.func137) (by simp -implicitDefEqProofs (disch := (first | omega | (simp; done) | fail)) [if_pos, if_neg, wrap_i64, tmod_pos, tdiv_pos, Int.toNat_add, rv, pm] <;> first | rfl | omega) _ ((mrnum_ok) _ rid nrid tid _ (off + 13) _ r3 hn1 hn2 r2 hz' hl') ?_
  rintro _ h' ⟨rfl, rp'⟩
  replace rp := RdP.go hbf rq rp'
  clear rq hnl r2 r3 rp' hz' hl' hbf
  refine zE ?_
  refine goesT_done ?_
  (try simp only [vq, if_true, reduceIte, Nat.reduceEqDiff, reduceCtorEq])
  repeat (first | ((first | refine zd ?_ | refine zx ?_ | refine zk ?_ | refine zl ?_ | refine zr ?_); refine zq ?_) | refine zs ?_ | refine zh (by simp -implicitDefEqProofs (disch := (first | omega | (simp; done) | fail)) [if_pos, if_neg, wrap_i64, tmod_pos, tdiv_pos, Int.toNat_add, rv]; rfl) ?_ | refine zb ?_ | refine zo ?_ | refine zt ?_ | refine zf ?_)
  obtain ⟨new, rq, hnl, r2, r3⟩ := rp.cut
  have hz' := RdP.z (m := 1) hz hnl (by simp) hl
  have hl' : off + 14 + 1 ≤ (V.over cs off new).length := by simp only [List.length_cons, List.length_nil, List.length_append, Nat.zero_add] at hnl hl; rw [over_len (by omega)]; omega
  have hbf : off + 14 ≤ cs.length := (by simp only [List.length_cons, List.length_nil, List.length_append, Nat.zero_add] at hl; omega)
  refine goes_callS (callable_of Tryz.func78) (by simp -implicitDefEqProofs (disch := (first | omega | (simp; done) | fail)) [if_pos, if_neg, wrap_i64, tmod_pos, tdiv_pos, Int.toNat_add, rv, pm, rv] <;> first | rfl | omega) _ ((rids_ok) _ rid nrid tid _ (off + 14) _ r3 hn1 hn2 r2 hz' hl') ?_
  rintro _ h' ⟨rfl, rp'⟩
  replace rp := RdP.go hbf rq rp'
  clear rq hnl r2 r3 rp' hz' hl' hbf
  refine goes_eq (by simp -implicitDefEqProofs (disch := (first | omega | (simp; done) | fail)) [if_pos, if_neg, wrap_i64, tmod_pos, tdiv_pos, Int.toNat_add, rv]; rfl) ?_
  (refine goes_done ?_; (try simp only [vq, if_true, reduceIte, Nat.reduceEqDiff, reduceCtorEq]))
  have hkl := rp.len
  first | refine body_all (.inr rfl) (by simp -implicitDefEqProofs; rfl) (by simp -implicitDefEqProofs; rfl) (by first | (simp; done) | (simp; omega) | omega) ?_ | refine body_all (.inl rfl) (by simp -implicitDefEqProofs; rfl) (by simp -implicitDefEqProofs; rfl) (by first | (simp; done) | (simp; omega) | omega) ?_
  exact ⟨rfl, rp.as rdInst Inst.c (fun p => ⟨p.1.1.1.1.1.2, p.1.1.1.1.2, p.1.1.1.2, p.1.1.2, p.1.2, p.2⟩) (fun _ => rfl) (fun _ => rfl)⟩
def Msg.z : List AV := [iv 0, iv 0, iv 0, iv 0, iv 0, iv 0, iv 0, iv 0, iv 0, iv 0, iv 0, iv 0, iv 0, iv 0, iv 0, iv 0, .str [], .str [], iv 0, iv 0, iv 0, iv 0, .list [] .full, iv 0, .list [] .full, .list [] .full, .list [] .full]
end Go.Proofs.YtdncoobpdllpkaaGreat.D

/- Bytes as messages: OfMsg. -/
set_option linter.unusedVariables false
set_option linter.unusedSimpArgs false
set_option maxRecDepth 20000
namespace Go.Proofs.YtdncoobpdllpkaaGreat.D
open Go Go.Proofs.YtdncoobpdllpkaaGreat.V Go.Proofs.YtdncoobpdllpkaaGreat.N
def Iid.zero : Iid := ⟨0, 0, 0⟩
def Bal.zero : Bal := ⟨0, 0⟩
def Cmd.zero : Cmd := ⟨0, 0, 0, [], [], 0, 0, 0⟩
def Inst.zero : Inst := ⟨0, .zero, .zero, .zero, 0, []⟩
def Snap.zero : Snap := ⟨0, [], [], []⟩
def Msg.zero : Msg := ⟨0, 0, 0, .zero, .zero, .zero, .zero⟩
/-- What bytes are, whole. -/
def whole {α : Type} (f : Spec α) (d : α) (l : List UInt8) : α × Nat :=
  match f l with
  | .error e => (d, e)
  | .ok p => if p.2 = [] then (p.1, 0) else (d, 11)
theorem run_err {α : Type} {f : Spec α} {l : List UInt8} {e : Nat} (hf : f l = .error e) : runT f (.ok l) = .error e := by simp [runT, hf]
theorem run_ok {α : Type} {f : Spec α} {l : List UInt8} {p : α × List UInt8} (hf : f l = .ok p) : runT f (.ok l) = .ok p.2 := by simp [runT, hf]
theorem Rq.err {h : AHeap} {rid nrid e : Nat} (q : Rq h rid nrid (.error e)) : e ≠ 0 := by
  obtain ⟨l, e1, e2, r1, r2, r3, r4, r5⟩ := q
  exact r4.1
/-- How reading a whole thing ends. -/
theorem whole_cases {α : Type} (f : Spec α) (d : α) (l : List UInt8) {h : AHeap} {rid nrid : Nat} (q : Rq h rid nrid (runT f (.ok l))) :
    (∃ e : Nat, endE (runT f (.ok l)) = (e : Int) ∧ ((e : Int) != 0) = true ∧ whole f d l = (d, e)) ∨ (endE (runT f (.ok l)) = 0 ∧ ∃ p, f l = .ok p ∧ p.2 = [] ∧ whole f d l = (p.1, 0)) := by
  cases hf : f l with
  | error e =>
    rw [run_err hf] at q ⊢
    exact .inl ⟨e, rfl, by have := q.err; simp; omega, by simp [whole, hf]⟩
  | ok p =>
    rw [run_ok hf]
    by_cases hp : p.2 = []
    · exact .inr ⟨by simp [endE, hp], p, rfl, hp, by simp [whole, hf, hp]⟩
    · exact .inl ⟨11, by simp [endE, hp], rfl, by simp [whole, hf, hp]⟩
theorem rq_new (h : AHeap) (l : List UInt8) (t : Tok) (hl : l.length ≤ 100000000) {rid nrid : Nat} (h1 : h[nrid]? = some (.cells [.list (l.map b8) t, .int .i64 0])) (h2 : h[rid]? = some (.cells [.ptr nrid 0, .int .i64 0])) (hne : rid ≠ nrid) : Rq h rid nrid (.ok l) :=
  ⟨l, 0, 0, ⟨t, h1⟩, h2, hne, ⟨rfl, rfl, rfl⟩, hl⟩
@[simp] theorem bel_iv {m : Nat} {x : Int} : Bel m (iv x) := .int _ _
@[simp] theorem bel_idv {m : Nat} {x : Iid} : Bel m (Iid.av x) := by simp [Iid.av, Iid.c]
@[simp] theorem bel_entv {m : Nat} {x : Entry} : Bel m (Entry.av x) := by simp [Entry.av, Entry.c]
@[simp] theorem bel_sesv {m : Nat} {x : Sess} : Bel m (Sess.av x) := by simp [Sess.av, Sess.c]
attribute [simp] str_s idv_s entv_s sesv_s iv_s
end Go.Proofs.YtdncoobpdllpkaaGreat.D

/- Bytes as records: Get. -/
set_option linter.unusedVariables false
set_option linter.unusedSimpArgs false
set_option maxRecDepth 20000
namespace Go.Proofs.YtdncoobpdllpkaaGreat.D
open Go Go.Proofs.YtdncoobpdllpkaaGreat.V Go.Proofs.YtdncoobpdllpkaaGreat.N
def Rec.zero : Rec := ⟨false, .zero, .zero, .zero⟩
def Rec.z (b : Bool) : List AV := [.bool b, iv 0, iv 0, iv 0, iv 0, iv 0, iv 0, iv 0, iv 0, iv 0, iv 0, iv 0, .str [], .str [], iv 0, iv 0, iv 0, iv 0, .list [] .full, iv 0, .list [] .full, .list [] .full, .list [] .full]
def rdII : Spec (Iid × Inst) := mapS (fun p => (p.1.2, p.2)) (seqS (seqS nopS rdId) rdInst)
theorem rbody_seal (h : AHeap) (rid nrid tid : Nat) (st : St) (hq : Rq h rid nrid st) (hn1 : tid ≠ rid) (hn2 : tid ≠ nrid) (ht : h[tid]? = some (.cells (Rec.z true))) :
    ACalls Tryz.prog 34 [rv rid, .ptr tid 0] h fun r h' => r = .tuple [] ∧ RdP h rid nrid tid (Rec.z true) 19 st 4 rdSnap Snap.c h' := by
  have hc : (Rec.z true)[0]? = some (.bool true) := rfl
  have hz : ((Rec.z true).drop 19).take 4 = [iv 0, .list [] .full, .list [] .full, .list [] .full] := rfl
  have hlen : decide (19 + 4 ≤ (Rec.z true).length) = true := rfl
  generalize Rec.z true = cs at *
  unfold rv
  refine acalls_of_awp Tryz.func34 rfl (by simp only [List.length_cons, List.length_nil]; decide) ?_
  simp only [params_cons, params_nil]
  repeat (first | ((first | refine zd ?_ | refine zx ?_ | refine zk ?_ | refine zl ?_ | refine zr ?_); refine zq ?_) | refine zs ?_ | refine zh (by simp -implicitDefEqProofs (disch := (first | omega | (simp; done) | fail)) [if_pos, if_neg, wrap_i64, tmod_pos, tdiv_pos, Int.toNat_add, ht, hc]; rfl) ?_ | refine zb ?_ | refine zo ?_ | refine zt ?_ | refine zf ?_)
  refine goes_callS (callable_of Tryz.func54) (by simp -implicitDefEqProofs (disch := (first | omega | (simp; done) | fail)) [if_pos, if_neg, wrap_i64, tmod_pos, tdiv_pos, Int.toNat_add, rv] <;> first | rfl | omega) _ (rsnap_ok h rid nrid tid cs 19 st hq hn1 hn2 ht hz (of_decide_eq_true hlen)) ?_
  rintro _ h' ⟨rfl, rp⟩
  have hkl := rp.len
  clear hz hlen ht
  refine ze ?_
  repeat (first | ((first | refine zd ?_ | refine zx ?_ | refine zk ?_ | refine zl ?_ | refine zr ?_); refine zq ?_) | refine zs ?_ | refine zg ?_ | refine zb ?_ | refine zo ?_ | refine zt ?_ | refine zf ?_)
  first | refine body_all (.inr rfl) (by simp -implicitDefEqProofs; rfl) (by simp -implicitDefEqProofs; rfl) (by first | (simp; done) | (simp; omega) | omega) ?_ | refine body_all (.inl rfl) (by simp -implicitDefEqProofs; rfl) (by simp -implicitDefEqProofs; rfl) (by first | (simp; done) | (simp; omega) | omega) ?_
  exact ⟨rfl, rp⟩
theorem rbody_inst (h : AHeap) (rid nrid tid : Nat) (st : St) (hq : Rq h rid nrid st) (hn1 : tid ≠ rid) (hn2 : tid ≠ nrid) (ht : h[tid]? = some (.cells (Rec.z false))) :
    ACalls Tryz.prog 34 [rv rid, .ptr tid 0] h fun r h' => r = .tuple [] ∧ RdP h rid nrid tid (Rec.z false) 1 st 18 rdII (fun p => p.1.c ++ p.2.c) h' := by
  have hc : (Rec.z false)[0]? = some (.bool false) := rfl
  have hz : ((Rec.z false).drop 1).take [iv 0, iv 0, iv 0, iv 0, iv 0, iv 0, iv 0, iv 0, iv 0, iv 0, iv 0, .str [], .str [], iv 0, iv 0, iv 0, iv 0, .list [] .full].length = [iv 0, iv 0, iv 0, iv 0, iv 0, iv 0, iv 0, iv 0, iv 0, iv 0, iv 0, .str [], .str [], iv 0, iv 0, iv 0, iv 0, .list [] .full] := rfl
  have hl : decide (1 + [iv 0, iv 0, iv 0, iv 0, iv 0, iv 0, iv 0, iv 0, iv 0, iv 0, iv 0, .str [], .str [], iv 0, iv 0, iv 0, iv 0, .list [] .full].length ≤ (Rec.z false).length) = true := rfl
  have rp : RdP h rid nrid tid (Rec.z false) 1 st 0 nopS (fun _ => []) h := RdP.start 1 hq ht
  generalize Rec.z false = cs at *
  obtain ⟨off, hoff⟩ : ∃ off : Nat, off = 1 := ⟨1, rfl⟩
  unfold rv
  refine acalls_of_awp Tryz.func34 rfl (by simp only [List.length_cons, List.length_nil]; decide) ?_
  simp only [params_cons, params_nil]
  repeat (first | ((first | refine zd ?_ | refine zx ?_ | refine zk ?_ | refine zl ?_ | refine zr ?_); refine zq ?_) | refine zs ?_ | refine zh (by simp -implicitDefEqProofs (disch := (first | omega | (simp; done) | fail)) [if_pos, if_neg, wrap_i64, tmod_pos, tdiv_pos, Int.toNat_add, ht, hc]; rfl) ?_ | refine zb ?_ | refine zo ?_ | refine zt ?_ | refine zf ?_)
  replace hl := of_decide_eq_true hl
  rw [← hoff] at hz hl rp ⊢
  obtain ⟨new, rq, hnl, r2, r3⟩ := rp.cut
  have hz' := RdP.z (m := 3) hz hnl (by simp) hl
  have hl' : off + 0 + 3 ≤ (V.over cs off new).length := by simp only [List.length_cons, List.length_nil, List.length_append, Nat.zero_add] at hnl hl; rw [over_len (by omega)]; omega
  have hbf : off + 0 ≤ cs.length := (by simp only [List.length_cons, List.length_nil, List.length_append, Nat.zero_add] at hl; omega)
  refine goes_callS (callable_of Tryz.func55) (by simp -implicitDefEqProofs (disch := (first | omega | (simp; done) | fail)) [if_pos, if_neg, wrap_i64, tmod_pos, tdiv_pos, Int.toNat_add, rv, hoff] <;> first | rfl | omega) _ ((rid_ok) _ rid nrid tid _ (off + 0) _ r3 hn1 hn2 r2 hz' hl') ?_
  rintro _ h' ⟨rfl, rp'⟩
  replace rp := RdP.go hbf rq rp'
  clear rq hnl r2 r3 rp' hz' hl' hbf
  refine ze ?_
  (refine goes_done ?_; (try simp only [vq, if_true, reduceIte, Nat.reduceEqDiff, reduceCtorEq]))
  repeat (first | ((first | refine zd ?_ | refine zx ?_ | refine zk ?_ | refine zl ?_ | refine zr ?_); refine zq ?_) | refine zs ?_ | refine zg ?_ | refine zb ?_ | refine zo ?_ | refine zt ?_ | refine zf ?_)
  obtain ⟨new, rq, hnl, r2, r3⟩ := rp.cut
  have hz' := RdP.z (m := 15) hz hnl (by simp) hl
  have hl' : off + 3 + 15 ≤ (V.over cs off new).length := by simp only [List.length_cons, List.length_nil, List.length_append, Nat.zero_add] at hnl hl; rw [over_len (by omega)]; omega
  have hbf : off + 3 ≤ cs.length := (by simp only [List.length_cons, List.length_nil, List.length_append, Nat.zero_add] at hl; omega)
  refine goes_callS (callable_of Tryz.func56) (by simp -implicitDefEqProofs (disch := (first | omega | (simp; done) | fail)) [if_pos, if_neg, wrap_i64, tmod_pos, tdiv_pos, Int.toNat_add, rv, hoff] <;> first | rfl | omega) _ ((rinst_ok) _ rid nrid tid _ (off + 3) _ r3 hn1 hn2 r2 hz' hl') ?_
  rintro _ h' ⟨rfl, rp'⟩
  replace rp := RdP.go hbf rq rp'
  clear rq hnl r2 r3 rp' hz' hl' hbf
  refine ze ?_
  repeat (first | ((first | refine zd ?_ | refine zx ?_ | refine zk ?_ | refine zl ?_ | refine zr ?_); refine zq ?_) | refine zs ?_ | refine zg ?_ | refine zb ?_ | refine zo ?_ | refine zt ?_ | refine zf ?_)
  have hkl := rp.len
  first | refine body_all (.inr rfl) (by simp -implicitDefEqProofs; rfl) (by simp -implicitDefEqProofs; rfl) (by first | (simp; done) | (simp; omega) | omega) ?_ | refine body_all (.inl rfl) (by simp -implicitDefEqProofs; rfl) (by simp -implicitDefEqProofs; rfl) (by first | (simp; done) | (simp; omega) | omega) ?_
  exact ⟨rfl, rp.as rdII (fun p => p.1.c ++ p.2.c) (fun p => (p.1.2, p.2)) (fun _ => rfl) (fun _ => rfl)⟩
end Go.Proofs.YtdncoobpdllpkaaGreat.D

/- Bytes as records: Get, itself. -/
set_option linter.unusedVariables false
set_option linter.unusedSimpArgs false
set_option maxRecDepth 20000
namespace Go.Proofs.YtdncoobpdllpkaaGreat.D
open Go Go.Proofs.YtdncoobpdllpkaaGreat.V Go.Proofs.YtdncoobpdllpkaaGreat.N
def rdRec : Spec Rec := fun l =>
  match rdNum l with
  | .error e => .error e
  | .ok p => if 1 < p.1 then .error 11 else if p.1 = 1 then mapS (fun s => ⟨true, .zero, .zero, s⟩) rdSnap p.2 else mapS (fun q => ⟨false, q.1, q.2, .zero⟩) rdII p.2
theorem rec_big {l : List UInt8} (h : 1 < runV rdNum 0 (.ok l)) : whole rdRec .zero l = (.zero, 11) := by
  unfold runV at h
  unfold whole rdRec
  cases hn : rdNum l with
  | error e => simp [hn] at h
  | ok p => simp [hn] at h; simp [h]
theorem rec_one {l : List UInt8} (h : runV rdNum 0 (.ok l) = 1) : runT rdRec (.ok l) = runT rdSnap (runT rdNum (.ok l)) ∧ ∀ p, rdRec l = .ok p → ∃ l1 q, runT rdNum (.ok l) = .ok l1 ∧ rdSnap l1 = .ok q ∧ p.1 = ⟨true, .zero, .zero, q.1⟩ := by
  unfold runV at h
  cases hn : rdNum l with
  | error e => simp [hn] at h
  | ok p =>
    simp [hn] at h
    rw [run_ok hn]
    have e : rdRec l = mapS (fun s => ⟨true, .zero, .zero, s⟩) rdSnap p.2 := by simp [rdRec, hn, h]
    refine ⟨by simp only [runT, e, mapS]; cases rdSnap p.2 <;> rfl, fun q hq => ?_⟩
    rw [e] at hq
    unfold mapS at hq
    cases hs : rdSnap p.2 with
    | error e => rw [hs] at hq; cases hq
    | ok t => rw [hs] at hq; injection hq with hq; subst hq; exact ⟨_, t, rfl, hs, rfl⟩
theorem rec_zero {l : List UInt8} (h : ¬ 1 < runV rdNum 0 (.ok l)) (h1 : runV rdNum 0 (.ok l) ≠ 1) : runT rdRec (.ok l) = runT rdII (runT rdNum (.ok l)) ∧ ∀ p, rdRec l = .ok p → ∃ l1 q, runT rdNum (.ok l) = .ok l1 ∧ rdII l1 = .ok q ∧ p.1 = ⟨false, q.1.1, q.1.2, .zero⟩ := by
  unfold runV at h h1
  cases hn : rdNum l with
  | error e =>
    have e1 : rdRec l = .error e := by simp [rdRec, hn]
    rw [run_err hn, run_err e1]
    exact ⟨rfl, fun p hp => by rw [e1] at hp; cases hp⟩
  | ok p =>
    simp [hn] at h h1
    rw [run_ok hn]
    have e : rdRec l = mapS (fun q => ⟨false, q.1, q.2, .zero⟩) rdII p.2 := by
      have : ¬ 1 < p.1 := by omega
      simp [rdRec, hn, h1, this]
    refine ⟨by simp only [runT, e, mapS]; cases rdII p.2 <;> rfl, fun q hq => ?_⟩
    rw [e] at hq
    unfold mapS at hq
    cases hs : rdII p.2 with
    | error e => rw [hs] at hq; cases hq
    | ok t => rw [hs] at hq; injection hq with hq; subst hq; exact ⟨_, t, rfl, hs, rfl⟩
theorem get_ok (l : List UInt8) (t : Tok) (hl : l.length ≤ 100000000) (h : AHeap) : ACalls Tryz.prog 18 [.list (l.map b8) t] h fun r h' => r = .tuple [.agg (whole rdRec .zero l).1.c, .int .i64 ((whole rdRec .zero l).2 : Nat)] ∧ h' = h := by
  refine acalls_of_awp Tryz.func18 rfl (by simp only [List.length_cons, List.length_nil]; decide) ?_
  simp only [params_cons, params_nil]
  repeat (first | ((first | refine zd ?_ | refine zx ?_ | refine zk ?_ | refine zl ?_ | refine zr ?_); refine zq ?_) | refine zs ?_ | refine zg ?_ | refine zb ?_ | refine zo ?_ | refine zt ?_ | refine zf ?_)
  refine zp (callable_of Tryz.func39) _ (rof_ok l _ _) ?_
  rintro _ h1 ⟨rfl, t', rfl⟩
  refine ze ?_
  repeat (first | ((first | refine zd ?_ | refine zx ?_ | refine zk ?_ | refine zl ?_ | refine zr ?_); refine zq ?_) | refine zs ?_ | refine zg ?_ | refine zb ?_ | refine zo ?_ | refine zt ?_ | refine zf ?_)
  have hq := rq_new (h ++ [.cells (Rec.z false), .cells [.list (l.map b8) t', .int .i64 0], .cells [.ptr (h.length + 1) 0, .int .i64 0]]) l t' hl (rid := h.length + 2) (nrid := h.length + 1) (by simp) (by simp) (by omega)
  refine goes_callS (callable_of Tryz.func40) (by simp -implicitDefEqProofs (disch := (first | omega | (simp; done) | fail)) [if_pos, if_neg, wrap_i64, tmod_pos, tdiv_pos, Int.toNat_add, Rec.z] <;> first | rfl | omega) _ (mnumber_ok _ (h.length + 2) (h.length + 1) (.ok l) hq) ?_
  rintro _ h' ⟨rfl, hq1, k1⟩
  have hres : h'[h.length]? = some (.cells (Rec.z false)) := by rw [k1.2.1 h.length (by simp) (by unfold Fr; omega)]; simp [Rec.z]
  obtain ⟨y, rfl⟩ := Kept.app k1 (fun k hk => by rcases hk with hk | hk <;> omega)
  obtain ⟨y', rfl⟩ : ∃ y', y = .cells (Rec.z false) :: y' := by
    simp at hres
    cases y with
    | nil => simp at hres
    | cons a b => simp at hres; exact ⟨b, by rw [hres]⟩
  have hyl : 2 ≤ y'.length := by have := k1.1; simp at this; omega
  clear hres hq k1
  by_cases hb : 1 < runV rdNum 0 (.ok l)
  · have e1 := rec_big hb
    refine goes_eq (by simp -implicitDefEqProofs (disch := (first | omega | (simp; done) | fail)) [if_pos, if_neg, wrap_i64, tmod_pos, tdiv_pos, Int.toNat_add, hb]; rfl) ?_
    repeat (first | ((first | refine zd ?_ | refine zx ?_ | refine zk ?_ | refine zl ?_ | refine zr ?_); refine zq ?_) | refine zs ?_ | refine zh (by simp -implicitDefEqProofs (disch := (first | omega | (simp; done) | fail)) [if_pos, if_neg, wrap_i64, tmod_pos, tdiv_pos, Int.toNat_add, hb, Rec.z]; rfl) ?_ | refine zb ?_ | refine zo ?_ | refine zt ?_ | refine zf ?_)
    first | refine zy (.inr rfl) ?_ | refine zy (.inl rfl) ?_
    rw [e1]
    simp [Rec.c, Rec.zero, Iid.zero, Bal.zero, Cmd.zero, Inst.zero, Snap.zero]
  · by_cases h1 : runV rdNum 0 (.ok l) = 1
    · obtain ⟨e1, e2⟩ := rec_one h1
      have h1B : decide (1 < runV rdNum 0 (.ok l)) = false := by simpa using hb
      have h1C := h1
      refine goes_eq (by simp -implicitDefEqProofs (disch := (first | omega | (simp; done) | fail)) [if_pos, if_neg, wrap_i64, tmod_pos, tdiv_pos, Int.toNat_add, h1C]; rfl) ?_
      repeat (first | ((first | refine zd ?_ | refine zx ?_ | refine zk ?_ | refine zl ?_ | refine zr ?_); refine zq ?_) | refine zs ?_ | refine zh (by simp -implicitDefEqProofs (disch := (first | omega | (simp; done) | fail)) [if_pos, if_neg, wrap_i64, tmod_pos, tdiv_pos, Int.toNat_add, h1C, h1B, Rec.z]; rfl) ?_ | refine zb ?_ | refine zo ?_ | refine zt ?_ | refine zf ?_)
      have hq2 : Rq (h ++ .cells (Rec.z false) :: (y' ++ [.cells (Rec.z true)])) (h.length + 2) (h.length + 1) (runT rdNum (.ok l)) := by have := hq1.app [.cells (Rec.z true)]; simpa using this
      refine goes_callS (callable_of Tryz.func34) (by simp -implicitDefEqProofs (disch := (first | omega | (simp; done) | fail)) [if_pos, if_neg, wrap_i64, tmod_pos, tdiv_pos, Int.toNat_add, rv, Rec.z] <;> first | rfl | omega) _ (rbody_seal _ (h.length + 2) (h.length + 1) (h.length + (y'.length + 1)) _ hq2 (by omega) (by omega) (by rw [List.getElem?_append_right (by omega)]; simp [Rec.z, h1C])) ?_
      rintro _ h2 ⟨rfl, new, r1, r2, r3, r4, r5⟩
      have hres : h2[h.length]? = some (.cells (Rec.z false)) := by rw [r5.2.1 h.length (by simp) (by unfold Fr3; omega)]; simp [Rec.z]
      obtain ⟨y2, rfl⟩ := Kept.app r5 (fun k hk => by rcases hk with hk | hk | hk <;> omega)
      obtain ⟨y3, rfl⟩ : ∃ y3, y2 = .cells (Rec.z false) :: y3 := by
        simp at hres
        cases y2 with
        | nil => simp at hres
        | cons a b => simp at hres; exact ⟨b, by rw [hres]⟩
      have r2' : y3[y'.length]? = some (.cells (V.over (Rec.z true) 19 new)) := by
        rw [List.getElem?_append_right (by omega)] at r2
        simpa using r2
      clear hres r5 hq2 r2 hyl
      rw [← e1] at r3
      refine ze ?_
      repeat (first | ((first | refine zd ?_ | refine zx ?_ | refine zk ?_ | refine zl ?_ | refine zr ?_); refine zq ?_) | refine zs ?_ | refine zg ?_ | refine zb ?_ | refine zo ?_ | refine zt ?_ | refine zf ?_)
      refine goes_callS (callable_of Tryz.func41) (by simp -implicitDefEqProofs (disch := (first | omega | (simp; done) | fail)) [if_pos, if_neg, wrap_i64, tmod_pos, tdiv_pos, Int.toNat_add] <;> first | rfl | omega) _ (mend_ok _ (h.length + 2) (h.length + 1) _ r3) ?_
      rintro _ h1 ⟨rfl, rfl⟩
      rcases whole_cases rdRec .zero l r3 with ⟨e, w1, w2, w3⟩ | ⟨w1, p, w4, w5, w6⟩
      · rw [w1]
        refine ze ?_
        repeat (first | ((first | refine zd ?_ | refine zx ?_ | refine zk ?_ | refine zl ?_ | refine zr ?_); refine zq ?_) | refine zs ?_ | refine zh (by simp -implicitDefEqProofs (disch := (first | omega | (simp; done) | fail)) [if_pos, if_neg, wrap_i64, tmod_pos, tdiv_pos, Int.toNat_add, w2, Rec.z]; rfl) ?_ | refine zb ?_ | refine zo ?_ | refine zt ?_ | refine zf ?_)
        first | refine zy (.inr rfl) ?_ | refine zy (.inl rfl) ?_
        rw [w3]
        simp [Rec.c, Rec.zero, Iid.zero, Bal.zero, Cmd.zero, Inst.zero, Snap.zero]
      · rw [w1]
        obtain ⟨l1, q, g1, g2, g3⟩ := e2 p w4
        obtain rfl := r4 l1 q g1 g2
        simp [V.over, Rec.z, Snap.c] at r2'
        refine ze ?_
        repeat (first | ((first | refine zd ?_ | refine zx ?_ | refine zk ?_ | refine zl ?_ | refine zr ?_); refine zq ?_) | refine zs ?_ | refine zh (by simp -implicitDefEqProofs (disch := (first | omega | (simp; done) | fail)) [if_pos, if_neg, wrap_i64, tmod_pos, tdiv_pos, Int.toNat_add, r2', Rec.z]; rfl) ?_ | refine zb ?_ | refine zo ?_ | refine zt ?_ | refine zf ?_)
        first | refine zy (.inr rfl) ?_ | refine zy (.inl rfl) ?_
        rw [w6, g3]
        simp [Rec.c, Iid.zero, Bal.zero, Cmd.zero, Inst.zero, Snap.zero]
    · obtain ⟨e1, e2⟩ := rec_zero hb h1
      have h1B : decide (1 < runV rdNum 0 (.ok l)) = false := by simpa using hb
      have h1C : (runV rdNum 0 (.ok l) == 1) = false := by simpa using h1
      refine goes_eq (by simp -implicitDefEqProofs (disch := (first | omega | (simp; done) | fail)) [if_pos, if_neg, wrap_i64, tmod_pos, tdiv_pos, Int.toNat_add, h1C]; rfl) ?_
      repeat (first | ((first | refine zd ?_ | refine zx ?_ | refine zk ?_ | refine zl ?_ | refine zr ?_); refine zq ?_) | refine zs ?_ | refine zh (by simp -implicitDefEqProofs (disch := (first | omega | (simp; done) | fail)) [if_pos, if_neg, wrap_i64, tmod_pos, tdiv_pos, Int.toNat_add, h1C, h1B, Rec.z]; rfl) ?_ | refine zb ?_ | refine zo ?_ | refine zt ?_ | refine zf ?_)
      have hq2 : Rq (h ++ .cells (Rec.z false) :: (y' ++ [.cells (Rec.z false)])) (h.length + 2) (h.length + 1) (runT rdNum (.ok l)) := by have := hq1.app [.cells (Rec.z false)]; simpa using this
      refine goes_callS (callable_of Tryz.func34) (by simp -implicitDefEqProofs (disch := (first | omega | (simp; done) | fail)) [if_pos, if_neg, wrap_i64, tmod_pos, tdiv_pos, Int.toNat_add, rv, Rec.z] <;> first | rfl | omega) _ (rbody_inst _ (h.length + 2) (h.length + 1) (h.length + (y'.length + 1)) _ hq2 (by omega) (by omega) (by rw [List.getElem?_append_right (by omega)]; simp [Rec.z, h1C])) ?_
      rintro _ h2 ⟨rfl, new, r1, r2, r3, r4, r5⟩
      have hres : h2[h.length]? = some (.cells (Rec.z false)) := by rw [r5.2.1 h.length (by simp) (by unfold Fr3; omega)]; simp [Rec.z]
      obtain ⟨y2, rfl⟩ := Kept.app r5 (fun k hk => by rcases hk with hk | hk | hk <;> omega)
      obtain ⟨y3, rfl⟩ : ∃ y3, y2 = .cells (Rec.z false) :: y3 := by
        simp at hres
        cases y2 with
        | nil => simp at hres
        | cons a b => simp at hres; exact ⟨b, by rw [hres]⟩
      have r2' : y3[y'.length]? = some (.cells (V.over (Rec.z false) 1 new)) := by
        rw [List.getElem?_append_right (by omega)] at r2
        simpa using r2
      clear hres r5 hq2 r2 hyl
      rw [← e1] at r3
      refine ze ?_
      repeat (first | ((first | refine zd ?_ | refine zx ?_ | refine zk ?_ | refine zl ?_ | refine zr ?_); refine zq ?_) | refine zs ?_ | refine zg ?_ | refine zb ?_ | refine zo ?_ | refine zt ?_ | refine zf ?_)
      refine goes_callS (callable_of Tryz.func41) (by simp -implicitDefEqProofs (disch := (first | omega | (simp; done) | fail)) [if_pos, if_neg, wrap_i64, tmod_pos, tdiv_pos, Int.toNat_add] <;> first | rfl | omega) _ (mend_ok _ (h.length + 2) (h.length + 1) _ r3) ?_
      rintro _ h1 ⟨rfl, rfl⟩
      rcases whole_cases rdRec .zero l r3 with ⟨e, w1, w2, w3⟩ | ⟨w1, p, w4, w5, w6⟩
      · rw [w1]
        refine ze ?_
        repeat (first | ((first | refine zd ?_ | refine zx ?_ | refine zk ?_ | refine zl ?_ | refine zr ?_); refine zq ?_) | refine zs ?_ | refine zh (by simp -implicitDefEqProofs (disch := (first | omega | (simp; done) | fail)) [if_pos, if_neg, wrap_i64, tmod_pos, tdiv_pos, Int.toNat_add, w2, Rec.z]; rfl) ?_ | refine zb ?_ | refine zo ?_ | refine zt ?_ | refine zf ?_)
        first | refine zy (.inr rfl) ?_ | refine zy (.inl rfl) ?_
        rw [w3]
        simp [Rec.c, Rec.zero, Iid.zero, Bal.zero, Cmd.zero, Inst.zero, Snap.zero]
      · rw [w1]
        obtain ⟨l1, q, g1, g2, g3⟩ := e2 p w4
        obtain rfl := r4 l1 q g1 g2
        simp [V.over, Rec.z, Iid.c, Inst.c] at r2'
        refine ze ?_
        repeat (first | ((first | refine zd ?_ | refine zx ?_ | refine zk ?_ | refine zl ?_ | refine zr ?_); refine zq ?_) | refine zs ?_ | refine zh (by simp -implicitDefEqProofs (disch := (first | omega | (simp; done) | fail)) [if_pos, if_neg, wrap_i64, tmod_pos, tdiv_pos, Int.toNat_add, r2', Rec.z]; rfl) ?_ | refine zb ?_ | refine zo ?_ | refine zt ?_ | refine zf ?_)
        first | refine zy (.inr rfl) ?_ | refine zy (.inl rfl) ?_
        rw [w6, g3]
        simp [Rec.c, Iid.zero, Bal.zero, Cmd.zero, Inst.zero, Snap.zero]
end Go.Proofs.YtdncoobpdllpkaaGreat.D
