import Derived.Test.YtajgeofhlgoifaaGJ
import Derived.Test.YtajgeofhlgoifaaIC
import Derived.Test.YtajgeofhlgoifaaGF
/- Graphs: all that one leads to is ahead of it, or in its group. -/
set_option linter.unusedVariables false
set_option linter.unusedSimpArgs false
set_option maxRecDepth 20000
namespace Go.Proofs.Ytajgeofhlgoifaa.G
open Go Go.Proofs.Ytajgeofhlgoifaa.V Go.Proofs.Ytajgeofhlgoifaa.I Go.Sort Go.RowKit
attribute [-simp] List.length_flatten List.map_flatten
theorem ahead_law (l : List Nod) (dn : List Iid) (h : AHeap) : ACalls Try.prog 9 [.list (l.map Nod.av) .no, .list (dn.map Iid.av) .no] h fun r h' => r = .bool true ∧ h' = h := by
  have hu := nod_uni l
  have hov := fun h => over_ok l dn .no .no h
  refine acalls_of_awp Try.func9 rfl (by simp only [List.length_cons, List.length_nil]; decide) ?_
  simp only [params_cons, params_nil]
  refine awp_seq ?_
  refine zg ?_
  refine goes_done ?_
  (try simp only [vq, if_true, reduceIte, Nat.reduceEqDiff, reduceCtorEq])
  refine awp_seq ?_
  repeat (first | ((first | refine zd ?_ | refine zx ?_ | refine zk ?_ | refine zl ?_ | refine zr ?_); refine zq ?_) | refine zs ?_ | refine zg ?_ | refine zb ?_ | refine zo ?_ | refine zt ?_ | refine zf ?_)
  refine zp (callable_of Try.func10) _ (works_ok _) ?_
  rintro _ _ ⟨rfl, XW, rfl⟩
  refine ze ?_
  refine goes_done ?_
  (try simp only [vq, if_true, reduceIte, Nat.reduceEqDiff, reduceCtorEq])
  repeat (first | ((first | refine zd ?_ | refine zx ?_ | refine zk ?_ | refine zl ?_ | refine zr ?_); refine zq ?_) | refine zs ?_ | refine zg ?_ | refine zb ?_ | refine zo ?_ | refine zt ?_ | refine zf ?_)
  refine zp (callable_of Try.func11) _ (hov _) ?_
  rintro _ _ ⟨rfl, rfl⟩
  rcases Bool.eq_false_or_eq_true (overB l dn) with ho | ho
  · rw [ho]
    refine ze ?_
    repeat (first | ((first | refine zd ?_ | refine zx ?_ | refine zk ?_ | refine zl ?_ | refine zr ?_); refine zq ?_) | refine zs ?_ | refine zg ?_ | refine zb ?_ | refine zo ?_ | refine zt ?_ | refine zf ?_)
    first | refine zy (.inr rfl) ?_ | refine zy (.inl rfl) ?_
    simp
  rw [ho]
  have hs := small_of ho
  have h14 := hs.len
  have hva := fun h => valid_ok l .no (by omega) h
  have hd14 := hs.dn
  refine ze ?_
  refine zp (callable_of Try.func16) _ (hva _) ?_
  rintro _ _ ⟨rfl, XV, rfl⟩
  rcases Bool.eq_false_or_eq_true (validB l) with hv | hv
  rotate_left
  · rw [hv]
    refine ze ?_
    repeat (first | ((first | refine zd ?_ | refine zx ?_ | refine zk ?_ | refine zl ?_ | refine zr ?_); refine zq ?_) | refine zs ?_ | refine zg ?_ | refine zb ?_ | refine zo ?_ | refine zt ?_ | refine zf ?_)
    first | refine zy (.inr rfl) ?_ | refine zy (.inl rfl) ?_
    simp
  rw [hv]
  have hor := fun H => order_sm hs hv dn (by omega) H
  have hrd := fun H => ready_sm hs hv dn (by omega) H
  refine ze ?_
  repeat (first | ((first | refine zd ?_ | refine zx ?_ | refine zk ?_ | refine zl ?_ | refine zr ?_); refine zq ?_) | refine zs ?_ | refine zg ?_ | refine zb ?_ | refine zo ?_ | refine zt ?_ | refine zf ?_)
  refine zp (callable_of Try.func13) _ (hor _) ?_
  rintro _ _ ⟨out, XO, rfl, rfl, hO⟩
  have hol := hO.len
  have hof := hO.flen
  have hfl := fun h => flatG_ok out .no (by omega) hO.ne (by omega) h
  have hfm := hO.mem
  have hfn := hO.nd
  obtain ⟨gs, hG, hperm, hmay⟩ := hO.perm
  have hgl : ∀ g ∈ out, g.length ≤ 14 := fun g hg => by
    have h1 : g.Nodup := flat_nd hO.nd g hg
    have := can_len h1 fun x hx => (hO.mem x).1 (List.mem_flatten.2 ⟨g, hg, hx⟩)
    omega
  generalize hF : out.flatten = F at *
  refine ze ?_
  refine goes_done ?_
  (try simp only [vq, if_true, reduceIte, Nat.reduceEqDiff, reduceCtorEq])
  refine awp_seq ?_
  repeat (first | ((first | refine zd ?_ | refine zx ?_ | refine zk ?_ | refine zl ?_ | refine zr ?_); refine zq ?_) | refine zs ?_ | refine zg ?_ | refine zb ?_ | refine zo ?_ | refine zt ?_ | refine zf ?_)
  refine zp (callable_of Try.func22) _ (hfl _) ?_
  rintro _ _ ⟨rfl, XF, rfl⟩
  refine goes_eq (by simp -implicitDefEqProofs (disch := (first | omega | (simp; done) | fail)) [if_pos, if_neg, wrap_i64, tmod_pos, tdiv_pos, Int.toNat_add, lv]; rfl) ?_
  refine goes_done ?_
  (try simp only [vq, if_true, reduceIte, Nat.reduceEqDiff, reduceCtorEq])
  refine awp_seq ?_
  refine awp_seq ?_
  repeat (first | ((first | refine zd ?_ | refine zx ?_ | refine zk ?_ | refine zl ?_ | refine zr ?_); refine zq ?_) | refine zs ?_ | refine zg ?_ | refine zb ?_ | refine zo ?_ | refine zt ?_ | refine zf ?_)
  refine zp (callable_of Try.func20) _ (hrd _) ?_
  rintro _ _ ⟨rd, XR, rfl, rfl, hrl, hrr, hrm⟩
  refine ze ?_
  have hsa := fun H => same_ok F rd .no .no (by omega) (by omega) H
  have hce : clean F = clean rd := clean_ext fun x => by rw [hfm, hrm]
  have hcl := fun H => clean_ok F .no (by omega) H
  have hcn : (clean F).length = F.length := nd_len (ris_nodup0 (clean_ris F)) hfn fun x => clean_mem F x
  refine zp (callable_of Try.func26) _ (hsa _) ?_
  rintro _ _ ⟨rfl, rfl⟩
  rw [decide_eq_true hce]
  refine ze ?_
  refine zp (callable_of Try.func27) _ (hcl _) ?_
  rintro _ _ ⟨rfl, rfl⟩
  refine goes_eq (by simp -implicitDefEqProofs (disch := (first | omega | (simp; done) | fail)) [if_pos, if_neg, wrap_i64, tmod_pos, tdiv_pos, Int.toNat_add, lv, hcn]; rfl) ?_
  refine goes_done ?_
  (try simp only [vq, if_true, reduceIte, Nat.reduceEqDiff, reduceCtorEq])
  generalize hXX : XW ++ (XV ++ (XO ++ (XF ++ XR))) = X0
  clear hXX
  have hud := iid_uni dn
  have hod := iid_onesL dn
  have b1 : dn.length * 24 ≤ 140737488355328 ∧ dn.length ≤ 140737488355328 := by omega
  obtain ⟨b1, b2⟩ := b1
  refine awp_cond_f rfl ?_
  refine awp_skip ?_
  simp only [vq, if_true, reduceIte, Nat.reduceEqDiff, reduceCtorEq]
  refine awp_seq ?_
  refine zg ?_
  refine goes_done ?_
  (try simp only [vq, if_true, reduceIte, Nat.reduceEqDiff, reduceCtorEq])
  refine awp_seq ?_
  refine zh (by simp -implicitDefEqProofs (disch := (first | omega | (simp; done) | fail)) [if_pos, if_neg, wrap_i64, tmod_pos, tdiv_pos, Int.toNat_add, hud, hod, b1, b2]; rfl) ?_
  refine goes_done ?_
  (try simp only [vq, if_true, reduceIte, Nat.reduceEqDiff, reduceCtorEq])
  refine awp_seq ?_
  refine awp_seq ?_
  refine zg ?_
  refine goes_done ?_
  (try simp only [vq, if_true, reduceIte, Nat.reduceEqDiff, reduceCtorEq])
  refine awp_block ?_
  refine awp_loop (fun z st => ∃ (i : Nat) (ah : List Iid) (tk : Tok) (Z : AHeap), z = out.length - i ∧ i ≤ out.length ∧ ah = dn ++ (out.take i).flatten ∧ TokZ h.length Z 25 3 tk ∧ st.le ⟨Try.f9.ntmps, [(0, .list (l.map Nod.av) .no), (5, .bool true), (6, .list (out.map lv) .no), (8, .list (ah.map Iid.av) tk), (9, iv (i : Nat))], h ++ Z⟩) out.length ?_ ?_
  rotate_left
  rintro z st ⟨i, ah, tk, Z, rfl, hi, hah, htz, hle⟩
  · refine awp_le hle ?_
    clear hle
    by_cases h9 : i = out.length
    · subst h9
      have q : ¬ (out.length : Int) < (out.length : Int) := by omega
      repeat (first | ((first | refine zd ?_ | refine zx ?_ | refine zk ?_ | refine zl ?_ | refine zr ?_); refine zq ?_) | refine zs ?_ | refine zh (by simp -implicitDefEqProofs (disch := (first | omega | (simp; done) | fail)) [if_pos, if_neg, wrap_i64, tmod_pos, tdiv_pos, Int.toNat_add, q]; rfl) ?_ | refine zb ?_ | refine zo ?_ | refine zt ?_ | refine zf ?_)
      first | refine zy (.inr rfl) ?_ | refine zy (.inl rfl) ?_
      simp
    · have hlt : i < out.length := by omega
      have q : (i : Int) < (out.length : Int) := by omega
      have huo := lv_uni out
      have hx2 : (out.map lv)[i]? = some (lv out[i]) := by simp [hlt]
      have hgm := hmay i out[i] (List.getElem?_eq_getElem hlt)
      rw [← hah] at hgm
      have hg14 := hgl out[i] (List.getElem_mem hlt)
      have htf : dn ++ (out.take (i + 1)).flatten = ah ++ out[i] := by rw [hah, List.take_succ_eq_append_getElem hlt, List.flatten_append]; simp
      have hal : ah.length ≤ 28 := by
        have := flat_take_le out i
        rw [hF] at this
        rw [hah, List.length_append]; omega
      generalize out[i] = g at *
      have hug := iid_uni g
      refine awp_seq ?_
      refine awp_seq ?_
      refine zh (by simp -implicitDefEqProofs (disch := (first | omega | (simp; done) | fail)) [if_pos, if_neg, wrap_i64, tmod_pos, tdiv_pos, Int.toNat_add, q]; rfl) ?_
      refine goes_done ?_
      (try simp only [vq, if_true, reduceIte, Nat.reduceEqDiff, reduceCtorEq])
      refine awp_cond_t rfl ?_
      refine awp_skip ?_
      simp only [vq, if_true, reduceIte, Nat.reduceEqDiff, reduceCtorEq]
      refine awp_seq ?_
      refine awp_block ?_
      refine awp_seq ?_
      refine AWP.mono (Q := fun e st => e = .normal ∧ ∃ Y : AHeap, st.le ⟨Try.f9.ntmps, [(0, .list (l.map Nod.av) .no), (5, .bool true), (6, .list (out.map lv) .no), (8, .list (ah.map Iid.av) tk), (9, iv (i : Nat))], h ++ (Z ++ Y)⟩) ?_ ?_
      · refine awp_seq ?_
        refine zg ?_
        refine goes_done ?_
        (try simp only [vq, if_true, reduceIte, Nat.reduceEqDiff, reduceCtorEq])
        refine awp_block ?_
        refine awp_loop (fun z st => ∃ (k : Nat) (Y : AHeap), z = g.length - k ∧ k ≤ g.length ∧ st.le ⟨Try.f9.ntmps, [(0, .list (l.map Nod.av) .no), (5, .bool true), (6, .list (out.map lv) .no), (8, .list (ah.map Iid.av) tk), (9, iv (i : Nat)), (10, iv (k : Nat))], h ++ (Z ++ Y)⟩) g.length ?_ ?_
        rotate_left
        rintro z st ⟨k, Y, rfl, hk, hle⟩
        · refine awp_le hle ?_
          clear hle
          by_cases h8 : k = g.length
          · subst h8
            have qk : ¬ (g.length : Int) < (g.length : Int) := by omega
            refine awp_seq ?_
            refine awp_seq ?_
            refine zh (by simp -implicitDefEqProofs (disch := (first | omega | (simp; done) | fail)) [if_pos, if_neg, wrap_i64, tmod_pos, tdiv_pos, Int.toNat_add, q, qk, hx2, huo, lv]; rfl) ?_
            refine goes_done ?_
            (try simp only [vq, if_true, reduceIte, Nat.reduceEqDiff, reduceCtorEq])
            refine awp_cond_f rfl ?_
            refine awp_exit ?_
            (try simp only [vq, if_true, reduceIte, Nat.reduceEqDiff, reduceCtorEq])
            exact ⟨trivial, Y, st_keep' (by simp []) (by simp [])⟩
          · have hkl : k < g.length := by omega
            have qk : (k : Int) < (g.length : Int) := by omega
            have hy2 : (g.map Iid.av)[k]? = some (Iid.av g[k]) := by simp [hkl]
            have hyg : g[k] ∈ g := List.getElem_mem hkl
            generalize g[k] = y at *
            refine awp_seq ?_
            refine awp_seq ?_
            refine zh (by simp -implicitDefEqProofs (disch := (first | omega | (simp; done) | fail)) [if_pos, if_neg, wrap_i64, tmod_pos, tdiv_pos, Int.toNat_add, q, qk, hx2, huo, lv]; rfl) ?_
            refine goes_done ?_
            (try simp only [vq, if_true, reduceIte, Nat.reduceEqDiff, reduceCtorEq])
            refine awp_cond_t rfl ?_
            refine awp_skip ?_
            simp only [vq, if_true, reduceIte, Nat.reduceEqDiff, reduceCtorEq]
            refine awp_seq ?_
            refine awp_block ?_
            refine AWP.mono (Q := fun e st => e = .normal ∧ ∃ Y : AHeap, st.le ⟨Try.f9.ntmps, [(0, .list (l.map Nod.av) .no), (5, .bool true), (6, .list (out.map lv) .no), (8, .list (ah.map Iid.av) tk), (9, iv (i : Nat)), (10, iv (k : Nat))], h ++ (Z ++ Y)⟩) ?_ ?_
            · refine awp_seq ?_
              refine zg ?_
              refine goes_done ?_
              (try simp only [vq, if_true, reduceIte, Nat.reduceEqDiff, reduceCtorEq])
              refine awp_block ?_
              refine awp_loop (fun z st => ∃ (j : Nat) (Y : AHeap), z = l.length - j ∧ j ≤ l.length ∧ st.le ⟨Try.f9.ntmps, [(0, .list (l.map Nod.av) .no), (5, .bool true), (6, .list (out.map lv) .no), (8, .list (ah.map Iid.av) tk), (9, iv (i : Nat)), (10, iv (k : Nat)), (11, iv (j : Nat))], h ++ (Z ++ Y)⟩) l.length ?_ ?_
              rotate_left
              rintro z st ⟨j, Y2, rfl, hj, hle⟩
              · refine awp_le hle ?_
                clear hle
                by_cases h7 : j = l.length
                · subst h7
                  have qj : ¬ (l.length : Int) < (l.length : Int) := by omega
                  refine awp_seq ?_
                  refine awp_seq ?_
                  refine zh (by simp -implicitDefEqProofs (disch := (first | omega | (simp; done) | fail)) [if_pos, if_neg, wrap_i64, tmod_pos, tdiv_pos, Int.toNat_add, qj]; rfl) ?_
                  refine goes_done ?_
                  (try simp only [vq, if_true, reduceIte, Nat.reduceEqDiff, reduceCtorEq])
                  refine awp_cond_f rfl ?_
                  refine awp_exit ?_
                  (try simp only [vq, if_true, reduceIte, Nat.reduceEqDiff, reduceCtorEq])
                  exact ⟨trivial, Y2, st_keep' (by simp []) (by simp [])⟩
                · have hjl : j < l.length := by omega
                  have qj : (j : Int) < (l.length : Int) := by omega
                  have hz2 : (l.map Nod.av)[j]? = some (Nod.av l[j]) := by simp [hjl]
                  obtain ⟨hdp, _⟩ := dp_at hv hjl
                  have hxd : l[j].deps.length ≤ 14 := hs.dep _ (List.getElem_mem hjl)
                  generalize l[j] = nd at *
                  refine awp_seq ?_
                  refine awp_seq ?_
                  refine zh (by simp -implicitDefEqProofs (disch := (first | omega | (simp; done) | fail)) [if_pos, if_neg, wrap_i64, tmod_pos, tdiv_pos, Int.toNat_add, qj]; rfl) ?_
                  refine goes_done ?_
                  (try simp only [vq, if_true, reduceIte, Nat.reduceEqDiff, reduceCtorEq])
                  refine awp_cond_t rfl ?_
                  refine awp_skip ?_
                  simp only [vq, if_true, reduceIte, Nat.reduceEqDiff, reduceCtorEq]
                  refine awp_seq ?_
                  refine awp_block ?_
                  refine awp_seq ?_
                  have hnb := neb nd.id y
                  simp only [bne] at hnb
                  by_cases hny : nd.id = y
                  · rw [hny] at hdp
                    have hok : ∀ x ∈ nd.deps, x ∈ ah ∨ x ∈ g := fun x hx => hgm y hyg x (by rw [hdp]; exact hx)
                    rw [decide_eq_true hny] at hnb
                    refine AWP.mono (Q := fun e st => e = .normal ∧ st.le ⟨Try.f9.ntmps, [(0, .list (l.map Nod.av) .no), (5, .bool true), (6, .list (out.map lv) .no), (8, .list (ah.map Iid.av) tk), (9, iv (i : Nat)), (10, iv (k : Nat)), (11, iv (j : Nat))], h ++ (Z ++ Y2)⟩) ?_ ?_
                    · refine awp_seq ?_
                      refine awp_draw (.q 0 (.q 1 (.q 2 (.q 3 (.q 4 (.q 5 (.q 6 (.q 7 (.q 8 (.q 9 (.q 10 (.q 11 (.q 12 (.done)))))))))))))) (by kernel_rfl) (by kernel_rfl) (tree_start (goesT_eq (by simp -implicitDefEqProofs (disch := (first | omega | (simp; done) | fail)) [if_pos, if_neg, wrap_i64, tmod_pos, tdiv_pos, Int.toNat_add, q, qk, qj, hx2, huo, hy2, hug, hz2, hu, lv, Iid.av, Iid.c, Nod.av, Nod.c]; rfl) ?_))
                      refine goesT_done ?_
                      (try simp only [vq, if_true, reduceIte, Nat.reduceEqDiff, reduceCtorEq])
                      refine awp_cond_f (by simp only [Slots.ev, Slots.get]; exact congrArg AV.bool hnb) ?_
                      refine awp_skip ?_
                      exact ⟨rfl, st_keep' (by simp []) (by simp [])⟩
                    · rintro e st2 ⟨rfl, hle⟩
                      simp only [vq, if_true, reduceIte, Nat.reduceEqDiff, reduceCtorEq]
                      refine awp_le hle ?_
                      clear hle
                      refine AWP.mono (Q := fun e st => e = .normal ∧ ∃ Y : AHeap, st.le ⟨Try.f9.ntmps, [(0, .list (l.map Nod.av) .no), (5, .bool true), (6, .list (out.map lv) .no), (8, .list (ah.map Iid.av) tk), (9, iv (i : Nat)), (10, iv (k : Nat)), (11, iv (j : Nat))], h ++ (Z ++ Y)⟩) ?_ ?_
                      · refine awp_seq ?_
                        refine zg ?_
                        refine goes_done ?_
                        (try simp only [vq, if_true, reduceIte, Nat.reduceEqDiff, reduceCtorEq])
                        refine awp_block ?_
                        refine awp_loop (fun z st => ∃ (d : Nat) (Y : AHeap), z = nd.deps.length - d ∧ d ≤ nd.deps.length ∧ st.le ⟨Try.f9.ntmps, [(0, .list (l.map Nod.av) .no), (5, .bool true), (6, .list (out.map lv) .no), (8, .list (ah.map Iid.av) tk), (9, iv (i : Nat)), (10, iv (k : Nat)), (11, iv (j : Nat)), (12, iv (d : Nat))], h ++ (Z ++ Y)⟩) nd.deps.length ?_ ?_
                        rotate_left
                        rintro z st ⟨d, Y3, rfl, hd, hle⟩
                        · refine awp_le hle ?_
                          clear hle
                          by_cases h6 : d = nd.deps.length
                          · subst h6
                            have qd : ¬ (nd.deps.length : Int) < (nd.deps.length : Int) := by omega
                            refine awp_seq ?_
                            refine awp_seq ?_
                            refine zh (by simp -implicitDefEqProofs (disch := (first | omega | (simp; done) | fail)) [if_pos, if_neg, wrap_i64, tmod_pos, tdiv_pos, Int.toNat_add, qj, qd, hz2, hu, Nod.av, Nod.c]; rfl) ?_
                            refine goes_done ?_
                            (try simp only [vq, if_true, reduceIte, Nat.reduceEqDiff, reduceCtorEq])
                            refine awp_cond_f rfl ?_
                            refine awp_exit ?_
                            (try simp only [vq, if_true, reduceIte, Nat.reduceEqDiff, reduceCtorEq])
                            exact ⟨trivial, Y3, st_keep' (by simp []) (by simp [])⟩
                          · have hdl : d < nd.deps.length := by omega
                            have qd : (d : Int) < (nd.deps.length : Int) := by omega
                            have hw2 : (nd.deps.map Iid.av)[d]? = some (Iid.av nd.deps[d]) := by simp [hdl]
                            have huw := iid_uni nd.deps
                            have hxok := hok nd.deps[d] (List.getElem_mem hdl)
                            generalize nd.deps[d] = x at *
                            have hat1 : ∀ H, ACalls Try.prog 24 [.list (ah.map Iid.av) .no, .agg [iv x.e, iv x.n, iv x.o]] H fun r h' => r = iv (idxI x ah) ∧ h' = H := fun H => at_ok ah x .no (by omega) H
                            have hat2 : ∀ H, ACalls Try.prog 24 [.list (g.map Iid.av) .no, .agg [iv x.e, iv x.n, iv x.o]] H fun r h' => r = iv (idxI x g) ∧ h' = H := fun H => at_ok g x .no (by omega) H
                            refine awp_seq ?_
                            refine awp_seq ?_
                            refine zh (by simp -implicitDefEqProofs (disch := (first | omega | (simp; done) | fail)) [if_pos, if_neg, wrap_i64, tmod_pos, tdiv_pos, Int.toNat_add, qj, qd, hz2, hu, Nod.av, Nod.c]; rfl) ?_
                            refine goes_done ?_
                            (try simp only [vq, if_true, reduceIte, Nat.reduceEqDiff, reduceCtorEq])
                            refine awp_cond_t rfl ?_
                            refine awp_skip ?_
                            simp only [vq, if_true, reduceIte, Nat.reduceEqDiff, reduceCtorEq]
                            refine awp_seq ?_
                            refine awp_block ?_
                            refine awp_seq ?_
                            refine zh (by simp -implicitDefEqProofs (disch := (first | omega | (simp; done) | fail)) [if_pos, if_neg, wrap_i64, tmod_pos, tdiv_pos, Int.toNat_add, qj, qd, hz2, hu, hw2, huw, Nod.av, Nod.c, Iid.av, Iid.c]; rfl) ?_
                            refine goes_done ?_
                            (try simp only [vq, if_true, reduceIte, Nat.reduceEqDiff, reduceCtorEq])
                            refine awp_hard (id := h.length + (Z.length + Y3.length)) (by simp -implicitDefEqProofs; rfl) ?_
                            simp -implicitDefEqProofs only [Slots.melt, AV.melt, Nat.add_left_cancel_iff, Nat.add_eq_left, Nat.left_eq_add, Nat.reduceEqDiff, reduceIte, Nat.succ_ne_self, Nat.one_ne_zero, Nat.zero_ne_one, List.set_append_right, List.set_append_left, Nat.sub_self, Nat.le_refl, Nat.add_sub_cancel_left, Nat.le_add_right, List.set_cons_zero, List.set_cons_succ]
                            refine awp_seq ?_
                            refine awp_draw (.q 0 (.q 1 (.a 2 (.q 3 (.q 4 (.q 5 (.q 6 (.q 7 (.q 8 (.q 9 (.a 10 (.q 11 (.q 12 (.done)))))))))))))) (by kernel_rfl) (by kernel_rfl) (tree_start (goesT_eq (by simp -implicitDefEqProofs (disch := (first | omega | (simp; done) | fail)) [if_pos, if_neg, wrap_i64, tmod_pos, tdiv_pos, Int.toNat_add]; rfl) ?_))
                            refine zP (callable_of Try.func24) _ (hat1 _) ?_
                            rintro _ _ ⟨rfl, rfl⟩
                            by_cases hxa : x ∈ ah
                            · have f1 : ¬ idxI x ah < 0 := by rw [idx_lt]; simpa using hxa
                              refine goesT_eq (by simp -implicitDefEqProofs (disch := (first | omega | (simp; done) | fail)) [if_pos, if_neg, wrap_i64, tmod_pos, tdiv_pos, Int.toNat_add, f1]; rfl) ?_
                              refine goesT_done ?_
                              (try simp only [vq, if_true, reduceIte, Nat.reduceEqDiff, reduceCtorEq])
                              refine awp_cond_f rfl ?_
                              repeat (first | ((first | refine zd ?_ | refine zx ?_ | refine zk ?_ | refine zl ?_ | refine zr ?_); refine zq ?_) | refine zs ?_ | refine zg ?_ | refine zb ?_ | refine zo ?_ | refine zt ?_ | refine zf ?_)
                              exact ⟨nd.deps.length - (d + 1), by omega, d + 1, Y3 ++ [.dead], rfl, hdl, st_keep' (by simp []) (by simp [])⟩
                            · have f1 : idxI x ah < 0 := idx_lt.2 hxa
                              have f2 : ¬ idxI x g < 0 := by rw [idx_lt]; simpa using hxok.resolve_left hxa
                              refine goesT_eq (by simp -implicitDefEqProofs (disch := (first | omega | (simp; done) | fail)) [if_pos, if_neg, wrap_i64, tmod_pos, tdiv_pos, Int.toNat_add, f1, q, hx2, huo, lv]; rfl) ?_
                              refine zP (callable_of Try.func24) _ (hat2 _) ?_
                              rintro _ _ ⟨rfl, rfl⟩
                              refine goesT_eq (by simp -implicitDefEqProofs (disch := (first | omega | (simp; done) | fail)) [if_pos, if_neg, wrap_i64, tmod_pos, tdiv_pos, Int.toNat_add, f2]; rfl) ?_
                              refine goesT_done ?_
                              (try simp only [vq, if_true, reduceIte, Nat.reduceEqDiff, reduceCtorEq])
                              refine awp_cond_f rfl ?_
                              repeat (first | ((first | refine zd ?_ | refine zx ?_ | refine zk ?_ | refine zl ?_ | refine zr ?_); refine zq ?_) | refine zs ?_ | refine zg ?_ | refine zb ?_ | refine zo ?_ | refine zt ?_ | refine zf ?_)
                              exact ⟨nd.deps.length - (d + 1), by omega, d + 1, Y3 ++ [.dead], rfl, hdl, st_keep' (by simp []) (by simp [])⟩
                        · exact ⟨0, Y2, rfl, by omega, st_keep' (by simp []) (by simp [])⟩
                      · rintro e st2 ⟨rfl, Y3, hle⟩
                        simp only [vq, if_true, reduceIte, Nat.reduceEqDiff, reduceCtorEq]
                        refine awp_le hle ?_
                        clear hle
                        repeat (first | ((first | refine zd ?_ | refine zx ?_ | refine zk ?_ | refine zl ?_ | refine zr ?_); refine zq ?_) | refine zs ?_ | refine zg ?_ | refine zb ?_ | refine zo ?_ | refine zt ?_ | refine zf ?_)
                        exact ⟨l.length - (j + 1), by omega, j + 1, Y3, rfl, hjl, st_keep' (by simp []) (by simp [])⟩
                  · rw [decide_eq_false hny] at hnb
                    refine awp_seq ?_
                    refine awp_draw (.q 0 (.q 1 (.q 2 (.q 3 (.q 4 (.q 5 (.q 6 (.q 7 (.q 8 (.q 9 (.q 10 (.q 11 (.q 12 (.done)))))))))))))) (by kernel_rfl) (by kernel_rfl) (tree_start (goesT_eq (by simp -implicitDefEqProofs (disch := (first | omega | (simp; done) | fail)) [if_pos, if_neg, wrap_i64, tmod_pos, tdiv_pos, Int.toNat_add, q, qk, qj, hx2, huo, hy2, hug, hz2, hu, lv, Iid.av, Iid.c, Nod.av, Nod.c]; rfl) ?_))
                    refine goesT_done ?_
                    (try simp only [vq, if_true, reduceIte, Nat.reduceEqDiff, reduceCtorEq])
                    refine awp_cond_t (by simp only [Slots.ev, Slots.get]; exact congrArg AV.bool hnb) ?_
                    repeat (first | ((first | refine zd ?_ | refine zx ?_ | refine zk ?_ | refine zl ?_ | refine zr ?_); refine zq ?_) | refine zs ?_ | refine zg ?_ | refine zb ?_ | refine zo ?_ | refine zt ?_ | refine zf ?_)
                    exact ⟨l.length - (j + 1), by omega, j + 1, Y2, rfl, hjl, st_keep' (by simp []) (by simp [])⟩
              · exact ⟨0, Y, rfl, by omega, st_keep' (by simp []) (by simp [])⟩
            · rintro e st2 ⟨rfl, Y3, hle⟩
              simp only [vq, if_true, reduceIte, Nat.reduceEqDiff, reduceCtorEq]
              refine awp_le hle ?_
              clear hle
              repeat (first | ((first | refine zd ?_ | refine zx ?_ | refine zk ?_ | refine zl ?_ | refine zr ?_); refine zq ?_) | refine zs ?_ | refine zg ?_ | refine zb ?_ | refine zo ?_ | refine zt ?_ | refine zf ?_)
              exact ⟨g.length - (k + 1), by omega, k + 1, Y3, rfl, hkl, st_keep' (by simp []) (by simp [])⟩
        · exact ⟨0, [], rfl, by omega, st_keep' (by simp []) (by simp [])⟩
      · rintro e st2 ⟨rfl, Y3, hle⟩
        simp only [vq, if_true, reduceIte, Nat.reduceEqDiff, reduceCtorEq]
        refine awp_le hle ?_
        clear hle
        have htz3 : TokZ h.length (Z ++ Y3) 25 3 tk := htz.app _
        generalize Z ++ Y3 = Z3 at *
        have hua := iid_uni ah
        have hog := iid_onesL g
        have c1 : (ah.length + g.length) * 24 ≤ 140737488355328 ∧ ah.length + g.length ≤ 140737488355328 := by omega
        obtain ⟨c1, c2⟩ := c1
        rcases htz3 with rfl | ⟨j3, rfl, hj3⟩
        · repeat (first | ((first | refine zd ?_ | refine zx ?_ | refine zk ?_ | refine zl ?_ | refine zr ?_); refine zq ?_) | refine zs ?_ | refine zh (by simp -implicitDefEqProofs (disch := (first | omega | (simp; done) | fail)) [if_pos, if_neg, wrap_i64, tmod_pos, tdiv_pos, Int.toNat_add, q, hx2, huo, hua, hug, hog, c1, c2, lv]; rfl) ?_ | refine zb ?_ | refine zo ?_ | refine zt ?_ | refine zf ?_)
          exact ⟨out.length - (i + 1), by omega, i + 1, ah ++ g, .own (h.length + Z3.length), Z3 ++ [.tail 25 3], rfl, hlt, htf.symm, .inr ⟨_, rfl, by simp⟩, st_keep' (by simp []) (by simp [])⟩
        · repeat (first | ((first | refine zd ?_ | refine zx ?_ | refine zk ?_ | refine zl ?_ | refine zr ?_); refine zq ?_) | refine zs ?_ | refine zh (by simp -implicitDefEqProofs (disch := (first | omega | (simp; done) | fail)) [if_pos, if_neg, wrap_i64, tmod_pos, tdiv_pos, Int.toNat_add, q, hx2, huo, hua, hug, hog, c1, c2, hj3, lv]; rfl) ?_ | refine zb ?_ | refine zo ?_ | refine zt ?_ | refine zf ?_)
          exact ⟨out.length - (i + 1), by omega, i + 1, ah ++ g, .own (h.length + Z3.length), Z3.set j3 .dead ++ [.tail 25 3], rfl, hlt, htf.symm, .inr ⟨_, rfl, by simp⟩, st_keep' (by simp []) (by simp [])⟩
  · exact ⟨0, dn, _, X0 ++ [.tail 25 3], rfl, by omega, by simp, .inr ⟨X0.length, rfl, by simp⟩, st_keep' (by simp []) (by simp [])⟩
end Go.Proofs.Ytajgeofhlgoifaa.G

/- Graphs: the walk of a law: all is ahead. -/
set_option linter.unusedVariables false
set_option linter.unusedSimpArgs false
namespace Go.Proofs.Ytajgeofhlgoifaa.G
open Go Go.Proofs.Ytajgeofhlgoifaa.V Go.Proofs.Ytajgeofhlgoifaa.I Go.RowKit
theorem walk_GraphAhead (x0 : Came) {w : World} (f0 : NodsAt w x0.v) (x1 : Came) (f1 : IdsAt w x1.v) :
    Calls Try.prog 9 #[x0.v, x1.v] w fun e w' => e = .returned (.bool true) ∧ Below w.heap.size w w' := by
  obtain ⟨a, ha⟩ := f0
  obtain ⟨b, hb⟩ := f1
  exact Law.calls (ahead_law a b []) w (vals_of (cells_cons ha (cells_cons hb (cells_nil _))))
end Go.Proofs.Ytajgeofhlgoifaa.G
