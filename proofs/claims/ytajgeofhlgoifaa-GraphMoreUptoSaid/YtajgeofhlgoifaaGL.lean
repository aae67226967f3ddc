import Derived.Test.YtajgeofhlgoifaaGJ
import Derived.Test.YtajgeofhlgoifaaGF
/- Graphs: two are in one group just where each leads to the other one, in plain words. -/
set_option linter.unusedVariables false
set_option linter.unusedSimpArgs false
set_option maxRecDepth 20000
namespace Go.Proofs.Ytajgeofhlgoifaa.G
open Go Go.Proofs.Ytajgeofhlgoifaa.V Go.Proofs.Ytajgeofhlgoifaa.I Go.Sort Go.RowKit
attribute [-simp] List.length_flatten List.map_flatten
theorem rt_lead {dp : Iid → List Iid} {x y : Iid} (h : Tar.Rt dp (dnB []) x y) : x = y ∨ Lead dp [] x y := by
  induction h with
  | refl => exact .inl rfl
  | step s _ ih =>
    rcases ih with rfl | ih
    · exact .inr (.first s.1)
    · exact .inr (lead_trans (.first s.1) ih)
theorem lead_rt {dp : Iid → List Iid} {x y : Iid} (h : Lead dp [] x y) : Tar.Rt dp (dnB []) x y := by
  induction h with
  | first h => exact .one ⟨h, by simp [dnB]⟩
  | next _ _ h ih => exact ih.trans (.one ⟨h, by simp [dnB]⟩)
theorem OrdOk.grp {l : List Nod} {dn : List Iid} {out : List (List Iid)} (h : OrdOk l dn out) : ∀ g ∈ out, Tar.IsGrp (dpOf l) (dnB dn) g ∧ g.Pairwise fun a b => keyC l a b = true := by
  obtain ⟨gs, hG, hp, _⟩ := h.perm
  exact fun g hg => ⟨hG.grp g (hp.mem_iff.1 hg), hG.srt g (hp.mem_iff.1 hg)⟩
/-- In one group: just where each leads to the other one. -/
theorem both_iff {l : List Nod} {out : List (List Iid)} (h : OrdOk l [] out) {i j : Nat} (hi : i < out.length) (hj : j < out.length) {x y : Iid} (hx : x ∈ out[i]) (hy : y ∈ out[j]) : (x = y ∨ (Lead (dpOf l) [] x y ∧ Lead (dpOf l) [] y x)) ↔ i = j := by
  obtain ⟨gi, _⟩ := h.grp _ (List.getElem_mem hi)
  constructor
  · rintro (rfl | ⟨h1, h2⟩)
    · exact flat_inj h.nd i j hi hj hx hy
    · exact flat_inj h.nd i j hi hj (gi.all x hx y (lead_rt h1) (lead_rt h2)) hy
  · rintro rfl
    rcases rt_lead (gi.each x hx y hy) with e | h1
    · exact .inl e
    · rcases rt_lead (gi.each y hy x hx) with e | h2
      · exact .inl e.symm
      · exact .inr ⟨h1, h2⟩
theorem findN_snoc (k : Iid) (l : List Nod) (x : Nod) : findN k (l ++ [x]) = if x.id = k then some x else findN k l := by
  unfold findN
  rw [List.reverse_append]
  simp only [List.reverse_cons, List.reverse_nil, List.nil_append, List.singleton_append, List.find?_cons]
  by_cases h : x.id = k <;> simp [h]
theorem sqOf_snoc (k : Iid) (l : List Nod) (x : Nod) : sqOf (l ++ [x]) k = if x.id = k then x.seq else sqOf l k := by
  unfold sqOf
  rw [findN_snoc]
  split <;> rfl
end Go.Proofs.Ytajgeofhlgoifaa.G

/- Graphs: two are in one group just where each leads to the other one; in a group numbers rise. -/
set_option linter.unusedVariables false
set_option linter.unusedSimpArgs false
set_option maxRecDepth 20000
set_option maxHeartbeats 1000000
namespace Go.Proofs.Ytajgeofhlgoifaa.G
open Go Go.Proofs.Ytajgeofhlgoifaa.V Go.Proofs.Ytajgeofhlgoifaa.I Go.Sort Go.RowKit
attribute [-simp] List.length_flatten List.map_flatten
theorem groups_law (l : List Nod) (h : AHeap) : ACalls Try.prog 7 [.list (l.map Nod.av) .no] h fun r h' => r = .bool true ∧ h' = h := by
  have hu := nod_uni l
  have hov : ∀ h, ACalls Try.prog 11 [.list (l.map Nod.av) .no, .list [] .no] h fun r h' => r = .bool (overB l []) ∧ h' = h := fun h => over_ok l [] .no .no h
  refine acalls_of_awp Try.func7 rfl (by simp only [List.length_cons, List.length_nil]; decide) ?_
  simp only [params_cons, params_nil]
  refine awp_seq ?_
  refine zg ?_
  refine goes_done ?_
  (try simp only [vq, if_true, reduceIte, Nat.reduceEqDiff, reduceCtorEq])
  refine awp_seq ?_
  repeat (first | ((first | refine zd ?_ | refine zx ?_ | refine zk ?_ | refine zl ?_ | refine zr ?_); refine zq ?_) | refine zs ?_ | refine zg ?_ | refine zb ?_ | refine zo ?_ | refine zt ?_ | refine zf ?_)
  refine zp (callable_of Try.func10) _ (works_ok _) ?_
  rintro _ _ ⟨rfl, XW, rfl⟩
  refine ze ?_
  refine goes_done ?_
  (try simp only [vq, if_true, reduceIte, Nat.reduceEqDiff, reduceCtorEq])
  repeat (first | ((first | refine zd ?_ | refine zx ?_ | refine zk ?_ | refine zl ?_ | refine zr ?_); refine zq ?_) | refine zs ?_ | refine zg ?_ | refine zb ?_ | refine zo ?_ | refine zt ?_ | refine zf ?_)
  refine zp (callable_of Try.func11) _ (hov _) ?_
  rintro _ _ ⟨rfl, rfl⟩
  rcases Bool.eq_false_or_eq_true (overB l []) with ho | ho
  · rw [ho]
    refine ze ?_
    repeat (first | ((first | refine zd ?_ | refine zx ?_ | refine zk ?_ | refine zl ?_ | refine zr ?_); refine zq ?_) | refine zs ?_ | refine zg ?_ | refine zb ?_ | refine zo ?_ | refine zt ?_ | refine zf ?_)
    first | refine zy (.inr rfl) ?_ | refine zy (.inl rfl) ?_
    simp
  rw [ho]
  have hs := small_of ho
  have h14 := hs.len
  have hva := fun h => valid_ok l .no (by omega) h
  have hd14 := hs.dn
  refine ze ?_
  refine zp (callable_of Try.func16) _ (hva _) ?_
  rintro _ _ ⟨rfl, XV, rfl⟩
  rcases Bool.eq_false_or_eq_true (validB l) with hv | hv
  rotate_left
  · rw [hv]
    refine ze ?_
    repeat (first | ((first | refine zd ?_ | refine zx ?_ | refine zk ?_ | refine zl ?_ | refine zr ?_); refine zq ?_) | refine zs ?_ | refine zg ?_ | refine zb ?_ | refine zo ?_ | refine zt ?_ | refine zf ?_)
    first | refine zy (.inr rfl) ?_ | refine zy (.inl rfl) ?_
    simp
  rw [hv]
  have hor : ∀ H, ACalls Try.prog 13 [.list (l.map Nod.av) .no, .list [] .no] H fun r h' => ∃ (out : List (List Iid)) (X : AHeap), r = .list (out.map lv) .no ∧ h' = H ++ X ∧ OrdOk l [] out := fun H => order_sm hs hv [] (by simp) H
  have hre := fun f H => reach_sm hs hv f H
  refine ze ?_
  repeat (first | ((first | refine zd ?_ | refine zx ?_ | refine zk ?_ | refine zl ?_ | refine zr ?_); refine zq ?_) | refine zs ?_ | refine zg ?_ | refine zb ?_ | refine zo ?_ | refine zt ?_ | refine zf ?_)
  refine zp (callable_of Try.func13) _ (hor _) ?_
  rintro _ _ ⟨out, XO, rfl, rfl, hO⟩
  have hol := hO.len
  have hgl : ∀ g ∈ out, g.length ≤ 14 := fun g hg => by
    have h1 : g.Nodup := flat_nd hO.nd g hg
    have := can_len h1 fun x hx => (hO.mem x).1 (List.mem_flatten.2 ⟨g, hg, hx⟩)
    omega
  have huo := lv_uni out
  refine ze ?_
  refine goes_done ?_
  (try simp only [vq, if_true, reduceIte, Nat.reduceEqDiff, reduceCtorEq])
  generalize XW ++ (XV ++ XO) = X0
  refine awp_seq ?_
  refine awp_seq ?_
  refine zg ?_
  refine goes_done ?_
  (try simp only [vq, if_true, reduceIte, Nat.reduceEqDiff, reduceCtorEq])
  refine awp_block ?_
  refine awp_loop (fun z st => ∃ (i : Nat) (X : AHeap), z = out.length - i ∧ i ≤ out.length ∧ st.le ⟨Try.f7.ntmps, [(0, .list (l.map Nod.av) .no), (3, .bool true), (4, .list (out.map lv) .no), (5, iv (i : Nat))], h ++ X⟩) out.length ?_ ?_
  rotate_left
  rintro z st ⟨i, X, rfl, hi, hle⟩
  · refine awp_le hle ?_
    clear hle
    by_cases h9 : i = out.length
    · subst h9
      have q : ¬ (out.length : Int) < (out.length : Int) := by omega
      repeat (first | ((first | refine zd ?_ | refine zx ?_ | refine zk ?_ | refine zl ?_ | refine zr ?_); refine zq ?_) | refine zs ?_ | refine zh (by simp -implicitDefEqProofs (disch := (first | omega | (simp; done) | fail)) [if_pos, if_neg, wrap_i64, tmod_pos, tdiv_pos, Int.toNat_add, q]; rfl) ?_ | refine zb ?_ | refine zo ?_ | refine zt ?_ | refine zf ?_)
      first | refine zy (.inr rfl) ?_ | refine zy (.inl rfl) ?_
      simp
    · have hlt : i < out.length := by omega
      have q : (i : Int) < (out.length : Int) := by omega
      have hx2 : (out.map lv)[i]? = some (lv out[i]) := by simp [hlt]
      have hg14 := hgl out[i] (List.getElem_mem hlt)
      have hgp := (hO.grp out[i] (List.getElem_mem hlt)).2
      have hgi : out[i]? = some out[i] := List.getElem?_eq_getElem hlt
      have hbi := fun (j : Nat) (hj : j < out.length) (x y : Iid) (hx : x ∈ out[i]) (hy : y ∈ out[j]) => both_iff hO hlt hj hx hy
      generalize out[i] = g at *
      have hug := iid_uni g
      refine awp_seq ?_
      refine awp_seq ?_
      refine zh (by simp -implicitDefEqProofs (disch := (first | omega | (simp; done) | fail)) [if_pos, if_neg, wrap_i64, tmod_pos, tdiv_pos, Int.toNat_add, q]; rfl) ?_
      refine goes_done ?_
      (try simp only [vq, if_true, reduceIte, Nat.reduceEqDiff, reduceCtorEq])
      refine awp_cond_t rfl ?_
      refine awp_skip ?_
      simp only [vq, if_true, reduceIte, Nat.reduceEqDiff, reduceCtorEq]
      refine awp_seq ?_
      refine awp_block ?_
      refine AWP.mono (Q := fun e st => e = .normal ∧ ∃ X : AHeap, st.le ⟨Try.f7.ntmps, [(0, .list (l.map Nod.av) .no), (3, .bool true), (4, .list (out.map lv) .no), (5, iv (i : Nat))], h ++ X⟩) ?_ ?_
      · refine awp_seq ?_
        refine zg ?_
        refine goes_done ?_
        (try simp only [vq, if_true, reduceIte, Nat.reduceEqDiff, reduceCtorEq])
        refine awp_block ?_
        refine awp_loop (fun z st => ∃ (k : Nat) (X : AHeap), z = g.length - k ∧ k ≤ g.length ∧ st.le ⟨Try.f7.ntmps, [(0, .list (l.map Nod.av) .no), (3, .bool true), (4, .list (out.map lv) .no), (5, iv (i : Nat)), (6, iv (k : Nat))], h ++ X⟩) g.length ?_ ?_
        rotate_left
        rintro z st ⟨k, X, rfl, hk, hle⟩
        · refine awp_le hle ?_
          clear hle
          by_cases h8 : k = g.length
          · subst h8
            have qk : ¬ (g.length : Int) < (g.length : Int) := by omega
            refine awp_seq ?_
            refine awp_seq ?_
            refine zh (by simp -implicitDefEqProofs (disch := (first | omega | (simp; done) | fail)) [if_pos, if_neg, wrap_i64, tmod_pos, tdiv_pos, Int.toNat_add, q, qk, hx2, huo, lv]; rfl) ?_
            refine goes_done ?_
            (try simp only [vq, if_true, reduceIte, Nat.reduceEqDiff, reduceCtorEq])
            refine awp_cond_f rfl ?_
            refine awp_exit ?_
            (try simp only [vq, if_true, reduceIte, Nat.reduceEqDiff, reduceCtorEq])
            exact ⟨trivial, X, st_keep' (by simp []) (by simp [])⟩
          · have hkl : k < g.length := by omega
            have qk : (k : Int) < (g.length : Int) := by omega
            have hy2 : (g.map Iid.av)[k]? = some (Iid.av g[k]) := by simp [hkl]
            have hxg : g[k] ∈ g := List.getElem_mem hkl
            have hgk : g[k]? = some g[k] := List.getElem?_eq_getElem hkl
            generalize g[k] = x at *
            refine awp_seq ?_
            refine awp_seq ?_
            refine zh (by simp -implicitDefEqProofs (disch := (first | omega | (simp; done) | fail)) [if_pos, if_neg, wrap_i64, tmod_pos, tdiv_pos, Int.toNat_add, q, qk, hx2, huo, lv]; rfl) ?_
            refine goes_done ?_
            (try simp only [vq, if_true, reduceIte, Nat.reduceEqDiff, reduceCtorEq])
            refine awp_cond_t rfl ?_
            refine awp_skip ?_
            simp only [vq, if_true, reduceIte, Nat.reduceEqDiff, reduceCtorEq]
            refine awp_seq ?_
            refine awp_block ?_
            refine awp_seq ?_
            refine zh (by simp -implicitDefEqProofs (disch := (first | omega | (simp; done) | fail)) [if_pos, if_neg, wrap_i64, tmod_pos, tdiv_pos, Int.toNat_add, q, qk, hx2, huo, hy2, hug, lv, Iid.av, Iid.c]; rfl) ?_
            refine goes_done ?_
            (try simp only [vq, if_true, reduceIte, Nat.reduceEqDiff, reduceCtorEq])
            refine awp_hard (id := h.length + X.length) (by simp -implicitDefEqProofs; rfl) ?_
            simp -implicitDefEqProofs only [Slots.melt, AV.melt, Nat.add_left_cancel_iff, Nat.add_eq_left, Nat.left_eq_add, Nat.reduceEqDiff, reduceIte, Nat.succ_ne_self, Nat.one_ne_zero, Nat.zero_ne_one, List.set_append_right, List.set_append_left, Nat.sub_self, Nat.le_refl, Nat.add_sub_cancel_left, Nat.le_add_right, List.set_cons_zero, List.set_cons_succ]
            refine awp_seq ?_
            repeat (first | ((first | refine zd ?_ | refine zx ?_ | refine zk ?_ | refine zl ?_ | refine zr ?_); refine zq ?_) | refine zs ?_ | refine zg ?_ | refine zb ?_ | refine zo ?_ | refine zt ?_ | refine zf ?_)
            refine zp (callable_of Try.func18) _ (hre x _) ?_
            rintro _ _ ⟨r, XR, rfl, rfl, hrl, hrm⟩
            refine ze ?_
            refine goes_done ?_
            (try simp only [vq, if_true, reduceIte, Nat.reduceEqDiff, reduceCtorEq])
            generalize hXX : X ++ AObj.dead :: XR = X1
            clear hXX
            have hur := iid_uni r
            refine awp_seq ?_
            refine AWP.mono (Q := fun e st => e = .normal ∧ ∃ X : AHeap, st.le ⟨Try.f7.ntmps, [(0, .list (l.map Nod.av) .no), (3, .bool true), (4, .list (out.map lv) .no), (5, iv (i : Nat)), (6, iv (k : Nat)), (7, .ref [iv x.e, iv x.n, iv x.o] 0)], h ++ X⟩) ?_ ?_
            · refine awp_seq ?_
              refine zg ?_
              refine goes_done ?_
              (try simp only [vq, if_true, reduceIte, Nat.reduceEqDiff, reduceCtorEq])
              refine awp_block ?_
              refine awp_loop (fun z st => ∃ (j : Nat) (X : AHeap), z = out.length - j ∧ j ≤ out.length ∧ st.le ⟨Try.f7.ntmps, [(0, .list (l.map Nod.av) .no), (3, .bool true), (4, .list (out.map lv) .no), (5, iv (i : Nat)), (6, iv (k : Nat)), (7, .ref [iv x.e, iv x.n, iv x.o] 0), (8, .list (r.map Iid.av) .no), (9, iv (j : Nat))], h ++ X⟩) out.length ?_ ?_
              rotate_left
              rintro z st ⟨j, X, rfl, hj, hle⟩
              · refine awp_le hle ?_
                clear hle
                by_cases h7 : j = out.length
                · subst h7
                  have qj : ¬ (out.length : Int) < (out.length : Int) := by omega
                  refine awp_seq ?_
                  refine awp_seq ?_
                  refine zh (by simp -implicitDefEqProofs (disch := (first | omega | (simp; done) | fail)) [if_pos, if_neg, wrap_i64, tmod_pos, tdiv_pos, Int.toNat_add, qj]; rfl) ?_
                  refine goes_done ?_
                  (try simp only [vq, if_true, reduceIte, Nat.reduceEqDiff, reduceCtorEq])
                  refine awp_cond_f rfl ?_
                  refine awp_exit ?_
                  (try simp only [vq, if_true, reduceIte, Nat.reduceEqDiff, reduceCtorEq])
                  exact ⟨trivial, X, st_keep' (by simp []) (by simp [])⟩
                · have hjl : j < out.length := by omega
                  have qj : (j : Int) < (out.length : Int) := by omega
                  have hz2 : (out.map lv)[j]? = some (lv out[j]) := by simp [hjl]
                  have hb14 := hgl out[j] (List.getElem_mem hjl)
                  have hbj := fun y (hy : y ∈ out[j]) => hbi j hjl x y hxg hy
                  generalize out[j] = g2 at *
                  have hug2 := iid_uni g2
                  refine awp_seq ?_
                  refine awp_seq ?_
                  refine zh (by simp -implicitDefEqProofs (disch := (first | omega | (simp; done) | fail)) [if_pos, if_neg, wrap_i64, tmod_pos, tdiv_pos, Int.toNat_add, qj]; rfl) ?_
                  refine goes_done ?_
                  (try simp only [vq, if_true, reduceIte, Nat.reduceEqDiff, reduceCtorEq])
                  refine awp_cond_t rfl ?_
                  refine awp_skip ?_
                  simp only [vq, if_true, reduceIte, Nat.reduceEqDiff, reduceCtorEq]
                  refine awp_seq ?_
                  refine awp_block ?_
                  refine AWP.mono (Q := fun e st => e = .normal ∧ ∃ X : AHeap, st.le ⟨Try.f7.ntmps, [(0, .list (l.map Nod.av) .no), (3, .bool true), (4, .list (out.map lv) .no), (5, iv (i : Nat)), (6, iv (k : Nat)), (7, .ref [iv x.e, iv x.n, iv x.o] 0), (8, .list (r.map Iid.av) .no), (9, iv (j : Nat))], h ++ X⟩) ?_ ?_
                  · refine awp_seq ?_
                    refine zg ?_
                    refine goes_done ?_
                    (try simp only [vq, if_true, reduceIte, Nat.reduceEqDiff, reduceCtorEq])
                    refine awp_block ?_
                    refine awp_loop (fun z st => ∃ (n : Nat) (X : AHeap), z = g2.length - n ∧ n ≤ g2.length ∧ st.le ⟨Try.f7.ntmps, [(0, .list (l.map Nod.av) .no), (3, .bool true), (4, .list (out.map lv) .no), (5, iv (i : Nat)), (6, iv (k : Nat)), (7, .ref [iv x.e, iv x.n, iv x.o] 0), (8, .list (r.map Iid.av) .no), (9, iv (j : Nat)), (10, iv (n : Nat))], h ++ X⟩) g2.length ?_ ?_
                    rotate_left
                    rintro z st ⟨n, X, rfl, hn, hle⟩
                    · refine awp_le hle ?_
                      clear hle
                      by_cases h6 : n = g2.length
                      · subst h6
                        have qn : ¬ (g2.length : Int) < (g2.length : Int) := by omega
                        refine awp_seq ?_
                        refine awp_seq ?_
                        refine zh (by simp -implicitDefEqProofs (disch := (first | omega | (simp; done) | fail)) [if_pos, if_neg, wrap_i64, tmod_pos, tdiv_pos, Int.toNat_add, qj, qn, hz2, huo, lv]; rfl) ?_
                        refine goes_done ?_
                        (try simp only [vq, if_true, reduceIte, Nat.reduceEqDiff, reduceCtorEq])
                        refine awp_cond_f rfl ?_
                        refine awp_exit ?_
                        (try simp only [vq, if_true, reduceIte, Nat.reduceEqDiff, reduceCtorEq])
                        exact ⟨trivial, X, st_keep' (by simp []) (by simp [])⟩
                      · have hnl : n < g2.length := by omega
                        have qn : (n : Int) < (g2.length : Int) := by omega
                        have hw2 : (g2.map Iid.av)[n]? = some (Iid.av g2[n]) := by simp [hnl]
                        have hby := hbj g2[n] (List.getElem_mem hnl)
                        generalize g2[n] = y at *
                        have hat1 : ∀ H, ACalls Try.prog 24 [.list (r.map Iid.av) .no, .agg [iv y.e, iv y.n, iv y.o]] H fun res h' => res = iv (idxI y r) ∧ h' = H := fun H => at_ok r y .no (by omega) H
                        refine awp_seq ?_
                        refine awp_seq ?_
                        refine zh (by simp -implicitDefEqProofs (disch := (first | omega | (simp; done) | fail)) [if_pos, if_neg, wrap_i64, tmod_pos, tdiv_pos, Int.toNat_add, qj, qn, hz2, huo, lv]; rfl) ?_
                        refine goes_done ?_
                        (try simp only [vq, if_true, reduceIte, Nat.reduceEqDiff, reduceCtorEq])
                        refine awp_cond_t rfl ?_
                        refine awp_skip ?_
                        simp only [vq, if_true, reduceIte, Nat.reduceEqDiff, reduceCtorEq]
                        refine awp_seq ?_
                        refine awp_block ?_
                        refine awp_seq ?_
                        refine zh (by simp -implicitDefEqProofs (disch := (first | omega | (simp; done) | fail)) [if_pos, if_neg, wrap_i64, tmod_pos, tdiv_pos, Int.toNat_add, qj, qn, hz2, huo, hw2, hug2, lv, Iid.av, Iid.c]; rfl) ?_
                        refine goes_done ?_
                        (try simp only [vq, if_true, reduceIte, Nat.reduceEqDiff, reduceCtorEq])
                        refine awp_hard (id := h.length + X.length) (by simp -implicitDefEqProofs; rfl) ?_
                        simp -implicitDefEqProofs only [Slots.melt, AV.melt, Nat.add_left_cancel_iff, Nat.add_eq_left, Nat.left_eq_add, Nat.reduceEqDiff, reduceIte, Nat.succ_ne_self, Nat.one_ne_zero, Nat.zero_ne_one, List.set_append_right, List.set_append_left, Nat.sub_self, Nat.le_refl, Nat.add_sub_cancel_left, Nat.le_add_right, List.set_cons_zero, List.set_cons_succ]
                        have hxy := eqb0 x y
                        refine awp_seq ?_
                        by_cases e1 : x = y
                        · have hij : i = j := hby.1 (.inl e1)
                          have eij : ((i : Int) == (j : Int)) = true := by simp [hij]
                          rw [decide_eq_true e1] at hxy
                          refine awp_draw (.q 0 (.q 1 (.q 2 (.q 3 (.q 4 (.q 5 (.a 6 (.q 7 (.q 8 (.q 9 (.q 10 (.q 12 (.a 11 (.a 13 (.q 14 (.q 15 (.q 16 (.q 17 (.done))))))))))))))))))) (by kernel_rfl) (by kernel_rfl) (tree_start (goesT_eq (by simp -implicitDefEqProofs (disch := (first | omega | (simp; done) | fail)) [if_pos, if_neg, wrap_i64, tmod_pos, tdiv_pos, Int.toNat_add, hxy]; rfl) ?_))
                          refine goesT_done ?_
                          (try simp only [vq, if_true, reduceIte, Nat.reduceEqDiff, reduceCtorEq])
                          repeat (first | ((first | refine zd ?_ | refine zx ?_ | refine zk ?_ | refine zl ?_ | refine zr ?_); refine zq ?_) | refine zs ?_ | refine zh (by simp -implicitDefEqProofs (disch := (first | omega | (simp; done) | fail)) [if_pos, if_neg, wrap_i64, tmod_pos, tdiv_pos, Int.toNat_add, eij]; rfl) ?_ | refine zb ?_ | refine zo ?_ | refine zt ?_ | refine zf ?_)
                          exact ⟨g2.length - (n + 1), by omega, n + 1, X ++ [.dead], rfl, hnl, st_keep' (by simp []) (by simp [])⟩
                        · rw [decide_eq_false e1] at hxy
                          refine awp_draw (.q 0 (.q 1 (.q 2 (.q 3 (.q 4 (.q 5 (.a 6 (.q 7 (.q 8 (.q 9 (.q 10 (.q 12 (.a 11 (.a 13 (.q 14 (.q 15 (.q 16 (.q 17 (.done))))))))))))))))))) (by kernel_rfl) (by kernel_rfl) (tree_start (goesT_eq (by simp -implicitDefEqProofs (disch := (first | omega | (simp; done) | fail)) [if_pos, if_neg, wrap_i64, tmod_pos, tdiv_pos, Int.toNat_add, hxy]; rfl) ?_))
                          refine zP (callable_of Try.func24) _ (hat1 _) ?_
                          rintro _ _ ⟨rfl, rfl⟩
                          by_cases e2 : y ∈ r
                          · have f2 : 0 ≤ idxI y r := idx_ge.2 e2
                            refine goesT_eq (by simp -implicitDefEqProofs (disch := (first | omega | (simp; done) | fail)) [if_pos, if_neg, wrap_i64, tmod_pos, tdiv_pos, Int.toNat_add, f2]; rfl) ?_
                            refine zP (callable_of Try.func18) _ (hre y _) ?_
                            rintro _ _ ⟨r2, XR2, rfl, rfl, hrl2, hrm2⟩
                            have hat2 : ∀ H, ACalls Try.prog 24 [.list (r2.map Iid.av) .no, .agg [iv x.e, iv x.n, iv x.o]] H fun res h' => res = iv (idxI x r2) ∧ h' = H := fun H => at_ok r2 x .no (by omega) H
                            refine zE ?_
                            refine zP (callable_of Try.func24) _ (hat2 _) ?_
                            rintro _ _ ⟨rfl, rfl⟩
                            by_cases e3 : x ∈ r2
                            · have f3 : 0 ≤ idxI x r2 := idx_ge.2 e3
                              have hij : i = j := hby.1 (.inr ⟨(hrm y).1 e2, (hrm2 x).1 e3⟩)
                              have eij : ((i : Int) == (j : Int)) = true := by simp [hij]
                              refine goesT_eq (by simp -implicitDefEqProofs (disch := (first | omega | (simp; done) | fail)) [if_pos, if_neg, wrap_i64, tmod_pos, tdiv_pos, Int.toNat_add, f3]; rfl) ?_
                              refine goesT_done ?_
                              (try simp only [vq, if_true, reduceIte, Nat.reduceEqDiff, reduceCtorEq])
                              repeat (first | ((first | refine zd ?_ | refine zx ?_ | refine zk ?_ | refine zl ?_ | refine zr ?_); refine zq ?_) | refine zs ?_ | refine zh (by simp -implicitDefEqProofs (disch := (first | omega | (simp; done) | fail)) [if_pos, if_neg, wrap_i64, tmod_pos, tdiv_pos, Int.toNat_add, eij]; rfl) ?_ | refine zb ?_ | refine zo ?_ | refine zt ?_ | refine zf ?_)
                              exact ⟨g2.length - (n + 1), by omega, n + 1, X ++ .dead :: XR2, rfl, hnl, st_keep' (by simp []) (by simp [])⟩
                            · have f3 : ¬ 0 ≤ idxI x r2 := by rw [idx_ge]; exact e3
                              have hij : i ≠ j := fun hc => by
                                rcases hby.2 hc with h1 | h1
                                · exact e1 h1
                                · exact e3 ((hrm2 x).2 h1.2)
                              have eij : ((i : Int) == (j : Int)) = false := by simp; omega
                              refine goesT_eq (by simp -implicitDefEqProofs (disch := (first | omega | (simp; done) | fail)) [if_pos, if_neg, wrap_i64, tmod_pos, tdiv_pos, Int.toNat_add, f3]; rfl) ?_
                              refine goesT_done ?_
                              (try simp only [vq, if_true, reduceIte, Nat.reduceEqDiff, reduceCtorEq])
                              repeat (first | ((first | refine zd ?_ | refine zx ?_ | refine zk ?_ | refine zl ?_ | refine zr ?_); refine zq ?_) | refine zs ?_ | refine zh (by simp -implicitDefEqProofs (disch := (first | omega | (simp; done) | fail)) [if_pos, if_neg, wrap_i64, tmod_pos, tdiv_pos, Int.toNat_add, eij]; rfl) ?_ | refine zb ?_ | refine zo ?_ | refine zt ?_ | refine zf ?_)
                              exact ⟨g2.length - (n + 1), by omega, n + 1, X ++ .dead :: XR2, rfl, hnl, st_keep' (by simp []) (by simp [])⟩
                          · have f2 : ¬ 0 ≤ idxI y r := by rw [idx_ge]; exact e2
                            have hij : i ≠ j := fun hc => by
                              rcases hby.2 hc with h1 | h1
                              · exact e1 h1
                              · exact e2 ((hrm y).2 h1.1)
                            have eij : ((i : Int) == (j : Int)) = false := by simp; omega
                            refine goesT_eq (by simp -implicitDefEqProofs (disch := (first | omega | (simp; done) | fail)) [if_pos, if_neg, wrap_i64, tmod_pos, tdiv_pos, Int.toNat_add, f2]; rfl) ?_
                            refine goesT_done ?_
                            (try simp only [vq, if_true, reduceIte, Nat.reduceEqDiff, reduceCtorEq])
                            repeat (first | ((first | refine zd ?_ | refine zx ?_ | refine zk ?_ | refine zl ?_ | refine zr ?_); refine zq ?_) | refine zs ?_ | refine zh (by simp -implicitDefEqProofs (disch := (first | omega | (simp; done) | fail)) [if_pos, if_neg, wrap_i64, tmod_pos, tdiv_pos, Int.toNat_add, eij]; rfl) ?_ | refine zb ?_ | refine zo ?_ | refine zt ?_ | refine zf ?_)
                            exact ⟨g2.length - (n + 1), by omega, n + 1, X ++ [.dead], rfl, hnl, st_keep' (by simp []) (by simp [])⟩
                    · exact ⟨0, X, rfl, by omega, st_keep' (by simp []) (by simp [])⟩
                  · rintro e st2 ⟨rfl, X3, hle⟩
                    simp only [vq, if_true, reduceIte, Nat.reduceEqDiff, reduceCtorEq]
                    refine awp_le hle ?_
                    clear hle
                    repeat (first | ((first | refine zd ?_ | refine zx ?_ | refine zk ?_ | refine zl ?_ | refine zr ?_); refine zq ?_) | refine zs ?_ | refine zg ?_ | refine zb ?_ | refine zo ?_ | refine zt ?_ | refine zf ?_)
                    exact ⟨out.length - (j + 1), by omega, j + 1, X3, rfl, hjl, st_keep' (by simp []) (by simp [])⟩
              · exact ⟨0, X1, rfl, by omega, st_keep' (by simp []) (by simp [])⟩
            · rintro e st2 ⟨rfl, X3, hle⟩
              simp only [vq, if_true, reduceIte, Nat.reduceEqDiff, reduceCtorEq]
              refine awp_le hle ?_
              clear hle
              by_cases hk0 : k = 0
              · have e0 : ((k : Int) == 0) = true := by simp [hk0]
                repeat (first | ((first | refine zd ?_ | refine zx ?_ | refine zk ?_ | refine zl ?_ | refine zr ?_); refine zq ?_) | refine zs ?_ | refine zh (by simp -implicitDefEqProofs (disch := (first | omega | (simp; done) | fail)) [if_pos, if_neg, wrap_i64, tmod_pos, tdiv_pos, Int.toNat_add, e0]; rfl) ?_ | refine zb ?_ | refine zo ?_ | refine zt ?_ | refine zf ?_)
                exact ⟨g.length - (k + 1), by omega, k + 1, X3, rfl, hkl, st_keep' (by simp []) (by simp [])⟩
              obtain ⟨m, hkm⟩ : ∃ m, k = m + 1 := ⟨k - 1, by omega⟩
              have hml : m < g.length := by omega
              have hv2 : (g.map Iid.av)[m]? = some (Iid.av g[m]) := by simp [hml]
              have hkey : keyC l g[m] x = true := by
                have h1 := List.pairwise_iff_getElem.1 hgp m k hml hkl (by omega)
                rw [List.getElem?_eq_getElem hkl] at hgk
                injection hgk with hgk
                rw [← hgk]; exact h1
              generalize g[m] = x0 at *
              have e0 : ((k : Int) == 0) = false := by simp; omega
              have hk1 : (k : Int) - 1 = (m : Int) := by omega
              have qm : (m : Int) < (g.length : Int) := by omega
              refine awp_seq ?_
              refine awp_seq ?_
              refine zh (by simp -implicitDefEqProofs (disch := (first | omega | (simp; done) | fail)) [if_pos, if_neg, wrap_i64, tmod_pos, tdiv_pos, Int.toNat_add, e0]; rfl) ?_
              refine goes_done ?_
              (try simp only [vq, if_true, reduceIte, Nat.reduceEqDiff, reduceCtorEq])
              refine awp_cond_f rfl ?_
              refine awp_skip ?_
              simp only [vq, if_true, reduceIte, Nat.reduceEqDiff, reduceCtorEq]
              refine awp_seq ?_
              refine zg ?_
              refine goes_done ?_
              (try simp only [vq, if_true, reduceIte, Nat.reduceEqDiff, reduceCtorEq])
              refine awp_seq ?_
              refine zg ?_
              refine goes_done ?_
              (try simp only [vq, if_true, reduceIte, Nat.reduceEqDiff, reduceCtorEq])
              refine awp_seq ?_
              refine AWP.mono (Q := fun e st => e = .normal ∧ ∃ (pd qd : List AV) (tp tq : Tok), st.le ⟨Try.f7.ntmps, [(0, .list (l.map Nod.av) .no), (3, .bool true), (4, .list (out.map lv) .no), (5, iv (i : Nat)), (6, iv (k : Nat)), (7, .ref [iv x.e, iv x.n, iv x.o] 0), (13, .ptr (h.length + X3.length) 0), (14, .ptr (h.length + (X3.length + 1)) 0)], h ++ (X3 ++ [.cells [iv (sqOf l x0), .list pd tp], .cells [iv (sqOf l x), .list qd tq]])⟩) ?_ ?_
              · refine awp_seq ?_
                refine zg ?_
                refine goes_done ?_
                (try simp only [vq, if_true, reduceIte, Nat.reduceEqDiff, reduceCtorEq])
                refine awp_block ?_
                refine awp_loop (fun z st => ∃ (j : Nat) (pd qd : List AV) (tp tq : Tok), z = l.length - j ∧ j ≤ l.length ∧ st.le ⟨Try.f7.ntmps, [(0, .list (l.map Nod.av) .no), (3, .bool true), (4, .list (out.map lv) .no), (5, iv (i : Nat)), (6, iv (k : Nat)), (7, .ref [iv x.e, iv x.n, iv x.o] 0), (13, .ptr (h.length + X3.length) 0), (14, .ptr (h.length + (X3.length + 1)) 0), (15, iv (j : Nat))], h ++ (X3 ++ [.cells [iv (sqOf (l.take j) x0), .list pd tp], .cells [iv (sqOf (l.take j) x), .list qd tq]])⟩) l.length ?_ ?_
                rotate_left
                rintro z st ⟨j, pd, qd, tp, tq, rfl, hj, hle⟩
                · refine awp_le hle ?_
                  clear hle
                  by_cases h7 : j = l.length
                  · subst h7
                    have qj : ¬ (l.length : Int) < (l.length : Int) := by omega
                    rw [List.take_length]
                    refine awp_seq ?_
                    refine awp_seq ?_
                    refine zh (by simp -implicitDefEqProofs (disch := (first | omega | (simp; done) | fail)) [if_pos, if_neg, wrap_i64, tmod_pos, tdiv_pos, Int.toNat_add, qj]; rfl) ?_
                    refine goes_done ?_
                    (try simp only [vq, if_true, reduceIte, Nat.reduceEqDiff, reduceCtorEq])
                    refine awp_cond_f rfl ?_
                    refine awp_exit ?_
                    (try simp only [vq, if_true, reduceIte, Nat.reduceEqDiff, reduceCtorEq])
                    exact ⟨trivial, pd, qd, tp, tq, st_keep' (by simp []) (by simp [])⟩
                  · have hjl : j < l.length := by omega
                    have qj : (j : Int) < (l.length : Int) := by omega
                    have hz2 : (l.map Nod.av)[j]? = some (Nod.av l[j]) := by simp [hjl]
                    have htk : l.take (j + 1) = l.take j ++ [l[j]] := List.take_succ_eq_append_getElem hjl
                    generalize l[j] = nd at *
                    have hs0 := sqOf_snoc x0 (l.take j) nd
                    have hs1 := sqOf_snoc x (l.take j) nd
                    rw [← htk] at hs0 hs1
                    generalize sqOf (l.take j) x0 = a0 at *
                    generalize sqOf (l.take j) x = a1 at *
                    have hq0 := eqb0 nd.id x0
                    have hq1 := eqb0 nd.id x
                    refine awp_seq ?_
                    refine awp_seq ?_
                    refine zh (by simp -implicitDefEqProofs (disch := (first | omega | (simp; done) | fail)) [if_pos, if_neg, wrap_i64, tmod_pos, tdiv_pos, Int.toNat_add, qj]; rfl) ?_
                    refine goes_done ?_
                    (try simp only [vq, if_true, reduceIte, Nat.reduceEqDiff, reduceCtorEq])
                    refine awp_cond_t rfl ?_
                    refine awp_skip ?_
                    simp only [vq, if_true, reduceIte, Nat.reduceEqDiff, reduceCtorEq]
                    refine awp_seq ?_
                    refine awp_block ?_
                    refine awp_seq ?_
                    refine awp_seq ?_
                    by_cases c0 : nd.id = x0
                    · rw [if_pos c0] at hs0
                      rw [decide_eq_true c0] at hq0
                      refine awp_draw (.q 0 (.q 1 (.q 2 (.q 3 (.q 4 (.q 5 (.q 6 (.q 7 (.q 8 (.q 9 (.q 10 (.q 11 (.q 12 (.q 13 (.done))))))))))))))) (by kernel_rfl) (by kernel_rfl) (tree_start (goesT_eq (by simp -implicitDefEqProofs (disch := (first | omega | (simp; done) | fail)) [if_pos, if_neg, wrap_i64, tmod_pos, tdiv_pos, Int.toNat_add, q, qk, qj, qm, hk1, hx2, huo, hv2, hug, hz2, hu, hq0, lv, Iid.av, Iid.c, Nod.av, Nod.c]; rfl) ?_))
                      refine goesT_done ?_
                      (try simp only [vq, if_true, reduceIte, Nat.reduceEqDiff, reduceCtorEq])
                      refine awp_cond_t rfl ?_
                      refine zh (by simp -implicitDefEqProofs (disch := (first | omega | (simp; done) | fail)) [if_pos, if_neg, wrap_i64, tmod_pos, tdiv_pos, Int.toNat_add, qj, hz2, hu, Nod.av, Nod.c]; rfl) ?_
                      refine goes_done ?_
                      (try simp only [vq, if_true, reduceIte, Nat.reduceEqDiff, reduceCtorEq])
                      refine awp_seq ?_
                      by_cases c1 : nd.id = x
                      · rw [if_pos c1] at hs1
                        rw [decide_eq_true c1] at hq1
                        refine awp_draw (.q 0 (.q 1 (.q 2 (.q 3 (.q 4 (.q 5 (.q 6 (.done)))))))) (by kernel_rfl) (by kernel_rfl) (tree_start (goesT_eq (by simp -implicitDefEqProofs (disch := (first | omega | (simp; done) | fail)) [if_pos, if_neg, wrap_i64, tmod_pos, tdiv_pos, Int.toNat_add, qj, hz2, hu, hq1, Nod.av, Nod.c]; rfl) ?_))
                        refine goesT_done ?_
                        (try simp only [vq, if_true, reduceIte, Nat.reduceEqDiff, reduceCtorEq])
                        refine awp_cond_t rfl ?_
                        refine zh (by simp -implicitDefEqProofs (disch := (first | omega | (simp; done) | fail)) [if_pos, if_neg, wrap_i64, tmod_pos, tdiv_pos, Int.toNat_add, qj, hz2, hu, Nod.av, Nod.c]; rfl) ?_
                        refine goes_done ?_
                        (try simp only [vq, if_true, reduceIte, Nat.reduceEqDiff, reduceCtorEq])
                        repeat (first | ((first | refine zd ?_ | refine zx ?_ | refine zk ?_ | refine zl ?_ | refine zr ?_); refine zq ?_) | refine zs ?_ | refine zg ?_ | refine zb ?_ | refine zo ?_ | refine zt ?_ | refine zf ?_)
                        refine ⟨l.length - (j + 1), by omega, j + 1, nd.deps.map Iid.av, nd.deps.map Iid.av, .no, .no, rfl, hjl, ?_⟩
                        rw [hs0, hs1]
                        exact st_keep' (by simp []) (by simp [])
                      · rw [if_neg c1] at hs1
                        rw [decide_eq_false c1] at hq1
                        refine awp_draw (.q 0 (.q 1 (.q 2 (.q 3 (.q 4 (.q 5 (.q 6 (.done)))))))) (by kernel_rfl) (by kernel_rfl) (tree_start (goesT_eq (by simp -implicitDefEqProofs (disch := (first | omega | (simp; done) | fail)) [if_pos, if_neg, wrap_i64, tmod_pos, tdiv_pos, Int.toNat_add, qj, hz2, hu, hq1, Nod.av, Nod.c]; rfl) ?_))
                        refine goesT_done ?_
                        (try simp only [vq, if_true, reduceIte, Nat.reduceEqDiff, reduceCtorEq])
                        refine awp_cond_f rfl ?_
                        repeat (first | ((first | refine zd ?_ | refine zx ?_ | refine zk ?_ | refine zl ?_ | refine zr ?_); refine zq ?_) | refine zs ?_ | refine zg ?_ | refine zb ?_ | refine zo ?_ | refine zt ?_ | refine zf ?_)
                        refine ⟨l.length - (j + 1), by omega, j + 1, nd.deps.map Iid.av, qd, .no, tq, rfl, hjl, ?_⟩
                        rw [hs0, hs1]
                        exact st_keep' (by simp []) (by simp [])
                    · rw [if_neg c0] at hs0
                      rw [decide_eq_false c0] at hq0
                      refine awp_draw (.q 0 (.q 1 (.q 2 (.q 3 (.q 4 (.q 5 (.q 6 (.q 7 (.q 8 (.q 9 (.q 10 (.q 11 (.q 12 (.q 13 (.done))))))))))))))) (by kernel_rfl) (by kernel_rfl) (tree_start (goesT_eq (by simp -implicitDefEqProofs (disch := (first | omega | (simp; done) | fail)) [if_pos, if_neg, wrap_i64, tmod_pos, tdiv_pos, Int.toNat_add, q, qk, qj, qm, hk1, hx2, huo, hv2, hug, hz2, hu, hq0, lv, Iid.av, Iid.c, Nod.av, Nod.c]; rfl) ?_))
                      refine goesT_done ?_
                      (try simp only [vq, if_true, reduceIte, Nat.reduceEqDiff, reduceCtorEq])
                      refine awp_cond_f rfl ?_
                      refine awp_skip ?_
                      simp only [vq, if_true, reduceIte, Nat.reduceEqDiff, reduceCtorEq]
                      refine awp_seq ?_
                      by_cases c1 : nd.id = x
                      · rw [if_pos c1] at hs1
                        rw [decide_eq_true c1] at hq1
                        refine awp_draw (.q 0 (.q 1 (.q 2 (.q 3 (.q 4 (.q 5 (.q 6 (.done)))))))) (by kernel_rfl) (by kernel_rfl) (tree_start (goesT_eq (by simp -implicitDefEqProofs (disch := (first | omega | (simp; done) | fail)) [if_pos, if_neg, wrap_i64, tmod_pos, tdiv_pos, Int.toNat_add, qj, hz2, hu, hq1, Nod.av, Nod.c]; rfl) ?_))
                        refine goesT_done ?_
                        (try simp only [vq, if_true, reduceIte, Nat.reduceEqDiff, reduceCtorEq])
                        refine awp_cond_t rfl ?_
                        refine zh (by simp -implicitDefEqProofs (disch := (first | omega | (simp; done) | fail)) [if_pos, if_neg, wrap_i64, tmod_pos, tdiv_pos, Int.toNat_add, qj, hz2, hu, Nod.av, Nod.c]; rfl) ?_
                        refine goes_done ?_
                        (try simp only [vq, if_true, reduceIte, Nat.reduceEqDiff, reduceCtorEq])
                        repeat (first | ((first | refine zd ?_ | refine zx ?_ | refine zk ?_ | refine zl ?_ | refine zr ?_); refine zq ?_) | refine zs ?_ | refine zg ?_ | refine zb ?_ | refine zo ?_ | refine zt ?_ | refine zf ?_)
                        refine ⟨l.length - (j + 1), by omega, j + 1, pd, nd.deps.map Iid.av, tp, .no, rfl, hjl, ?_⟩
                        rw [hs0, hs1]
                        exact st_keep' (by simp []) (by simp [])
                      · rw [if_neg c1] at hs1
                        rw [decide_eq_false c1] at hq1
                        refine awp_draw (.q 0 (.q 1 (.q 2 (.q 3 (.q 4 (.q 5 (.q 6 (.done)))))))) (by kernel_rfl) (by kernel_rfl) (tree_start (goesT_eq (by simp -implicitDefEqProofs (disch := (first | omega | (simp; done) | fail)) [if_pos, if_neg, wrap_i64, tmod_pos, tdiv_pos, Int.toNat_add, qj, hz2, hu, hq1, Nod.av, Nod.c]; rfl) ?_))
                        refine goesT_done ?_
                        (try simp only [vq, if_true, reduceIte, Nat.reduceEqDiff, reduceCtorEq])
                        refine awp_cond_f rfl ?_
                        repeat (first | ((first | refine zd ?_ | refine zx ?_ | refine zk ?_ | refine zl ?_ | refine zr ?_); refine zq ?_) | refine zs ?_ | refine zg ?_ | refine zb ?_ | refine zo ?_ | refine zt ?_ | refine zf ?_)
                        refine ⟨l.length - (j + 1), by omega, j + 1, pd, qd, tp, tq, rfl, hjl, ?_⟩
                        rw [hs0, hs1]
                        exact st_keep' (by simp []) (by simp [])
                · exact ⟨0, [], [], .full, .full, rfl, by omega, st_keep' (by simp [sqOf, findN]) (by simp [sqOf, findN])⟩
              · rintro e st2 ⟨rfl, pd, qd, tp, tq, hle⟩
                simp only [vq, if_true, reduceIte, Nat.reduceEqDiff, reduceCtorEq]
                refine awp_le hle ?_
                clear hle
                refine awp_hard (id := h.length + X3.length) (by simp -implicitDefEqProofs; rfl) ?_
                simp -implicitDefEqProofs only [Slots.melt, AV.melt, Nat.add_left_cancel_iff, Nat.add_eq_left, Nat.left_eq_add, Nat.reduceEqDiff, reduceIte, Nat.succ_ne_self, Nat.one_ne_zero, Nat.zero_ne_one, List.set_append_right, List.set_append_left, Nat.sub_self, Nat.le_refl, Nat.add_sub_cancel_left, Nat.le_add_right, List.set_cons_zero, List.set_cons_succ]
                refine awp_hard (id := h.length + (X3.length + 1)) (by simp -implicitDefEqProofs; rfl) ?_
                simp -implicitDefEqProofs only [Slots.melt, AV.melt, Nat.add_left_cancel_iff, Nat.add_eq_left, Nat.left_eq_add, Nat.reduceEqDiff, reduceIte, Nat.succ_ne_self, Nat.one_ne_zero, Nat.zero_ne_one, List.set_append_right, List.set_append_left, Nat.sub_self, Nat.le_refl, Nat.add_sub_cancel_left, Nat.le_add_right, List.set_cons_zero, List.set_cons_succ]
                have hle2 : ∀ H, ACalls Try.prog 25 [.agg [iv x0.e, iv x0.n, iv x0.o], .agg [iv x.e, iv x.n, iv x.o]] H fun r h' => r = .bool (lessB x0 x) ∧ h' = H := fun H => less_ok x0 x H
                unfold keyC at hkey
                generalize sqOf l x0 = a0 at *
                generalize sqOf l x = a1 at *
                simp only [Bool.or_eq_true, Bool.and_eq_true, decide_eq_true_eq] at hkey
                refine awp_seq ?_
                rcases hkey with hlt1 | ⟨heq1, hls⟩
                · have f1 : ¬ a1 < a0 := by omega
                  have f2 : (a0 == a1) = false := by simp; omega
                  refine awp_draw (.q 0 (.q 1 (.q 2 (.q 3 (.q 4 (.q 5 (.q 6 (.q 7 (.q 8 (.q 9 (.q 10 (.q 11 (.q 12 (.q 13 (.q 14 (.q 15 (.q 16 (.q 17 (.q 18 (.q 19 (.q 20 (.a 21 (.q 22 (.q 23 (.q 24 (.done)))))))))))))))))))))))))) (by kernel_rfl) (by kernel_rfl) (tree_start (goesT_eq (by simp -implicitDefEqProofs (disch := (first | omega | (simp; done) | fail)) [if_pos, if_neg, wrap_i64, tmod_pos, tdiv_pos, Int.toNat_add, f1, f2]; rfl) ?_))
                  refine goesT_done ?_
                  (try simp only [vq, if_true, reduceIte, Nat.reduceEqDiff, reduceCtorEq])
                  refine awp_cond_f rfl ?_
                  repeat (first | ((first | refine zd ?_ | refine zx ?_ | refine zk ?_ | refine zl ?_ | refine zr ?_); refine zq ?_) | refine zs ?_ | refine zg ?_ | refine zb ?_ | refine zo ?_ | refine zt ?_ | refine zf ?_)
                  exact ⟨g.length - (k + 1), by omega, k + 1, X3 ++ [.dead, .dead], rfl, hkl, st_keep' (by simp []) (by simp [])⟩
                · have f1 : ¬ a1 < a0 := by omega
                  have f2 : (a0 == a1) = true := by simp [heq1]
                  refine awp_draw (.q 0 (.q 1 (.q 2 (.q 3 (.q 4 (.q 5 (.q 6 (.q 7 (.q 8 (.q 9 (.q 10 (.q 11 (.q 12 (.q 13 (.q 14 (.q 15 (.q 16 (.q 17 (.q 18 (.q 19 (.q 20 (.a 21 (.q 22 (.q 23 (.q 24 (.done)))))))))))))))))))))))))) (by kernel_rfl) (by kernel_rfl) (tree_start (goesT_eq (by simp -implicitDefEqProofs (disch := (first | omega | (simp; done) | fail)) [if_pos, if_neg, wrap_i64, tmod_pos, tdiv_pos, Int.toNat_add, f1, f2, q, qk, qm, hk1, hx2, huo, hv2, hug, lv, Iid.av, Iid.c]; rfl) ?_))
                  refine zP (callable_of Try.func25) _ (hle2 _) ?_
                  rintro _ _ ⟨rfl, rfl⟩
                  rw [hls]
                  refine zE ?_
                  refine goesT_done ?_
                  (try simp only [vq, if_true, reduceIte, Nat.reduceEqDiff, reduceCtorEq])
                  refine awp_cond_f rfl ?_
                  repeat (first | ((first | refine zd ?_ | refine zx ?_ | refine zk ?_ | refine zl ?_ | refine zr ?_); refine zq ?_) | refine zs ?_ | refine zg ?_ | refine zb ?_ | refine zo ?_ | refine zt ?_ | refine zf ?_)
                  exact ⟨g.length - (k + 1), by omega, k + 1, X3 ++ [.dead, .dead], rfl, hkl, st_keep' (by simp []) (by simp [])⟩
        · exact ⟨0, X, rfl, by omega, st_keep' (by simp []) (by simp [])⟩
      · rintro e st2 ⟨rfl, X3, hle⟩
        simp only [vq, if_true, reduceIte, Nat.reduceEqDiff, reduceCtorEq]
        refine awp_le hle ?_
        clear hle
        repeat (first | ((first | refine zd ?_ | refine zx ?_ | refine zk ?_ | refine zl ?_ | refine zr ?_); refine zq ?_) | refine zs ?_ | refine zg ?_ | refine zb ?_ | refine zo ?_ | refine zt ?_ | refine zf ?_)
        exact ⟨out.length - (i + 1), by omega, i + 1, X3, rfl, hlt, st_keep' (by simp []) (by simp [])⟩
  · exact ⟨0, X0, rfl, by omega, st_keep' (by simp []) (by simp [])⟩
end Go.Proofs.Ytajgeofhlgoifaa.G

/- Graphs: the walk of a law: groups. -/
set_option linter.unusedVariables false
set_option linter.unusedSimpArgs false
namespace Go.Proofs.Ytajgeofhlgoifaa.G
open Go Go.Proofs.Ytajgeofhlgoifaa.V Go.Proofs.Ytajgeofhlgoifaa.I Go.RowKit
theorem walk_GraphGroups (x0 : Came) {w : World} (f0 : NodsAt w x0.v) :
    Calls Try.prog 7 #[x0.v] w fun e w' => e = .returned (.bool true) ∧ Below w.heap.size w w' := by
  obtain ⟨a, ha⟩ := f0
  exact Law.calls (groups_law a []) w (vals_of (cells_cons ha (cells_nil _)))
end Go.Proofs.Ytajgeofhlgoifaa.G
