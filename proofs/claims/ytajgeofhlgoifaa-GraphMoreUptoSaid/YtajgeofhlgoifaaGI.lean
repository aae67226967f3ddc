import Derived.Test.YtajgeofhlgoifaaGF
/- Graphs: what is reached from one that is reached is reached. -/
set_option linter.unusedVariables false
set_option linter.unusedSimpArgs false
set_option maxRecDepth 20000
namespace Go.Proofs.Ytajgeofhlgoifaa.G
open Go Go.Proofs.Ytajgeofhlgoifaa.V Go.Proofs.Ytajgeofhlgoifaa.I Go.Sort Go.RowKit
attribute [-simp] List.length_flatten List.map_flatten
theorem reach_sm {l : List Nod} {dn : List Iid} (hs : Small l dn) (hv : validB l = true) (f : Iid) (H : AHeap) : ACalls Try.prog 18 [.list (l.map Nod.av) .no, .agg [iv f.e, iv f.n, iv f.o]] H fun r h' => ∃ (rs : List Iid) (X : AHeap), r = .list (rs.map Iid.av) .no ∧ h' = H ++ X ∧ rs.length ≤ 196 ∧ ∀ y, y ∈ rs ↔ Lead (dpOf l) [] f y :=
  (reach_ok l f .no (by have := hs.len; omega) (hs.w f) H).mono fun r h' ⟨rs, X, h1, h2, _, h3⟩ => by
    obtain ⟨h4, h5⟩ := h3 hv
    have h6 := lead_len (ris_nodup0 h4) fun y hy => (h5 y).1 hy
    have h7 := hs.sum
    exact ⟨rs, X, h1, h2, by omega, h5⟩
theorem ready_sm {l : List Nod} {dn : List Iid} (hs : Small l dn) (hv : validB l = true) (dm : List Iid) (hd : dm.length ≤ 1000) (H : AHeap) : ACalls Try.prog 20 [.list (l.map Nod.av) .no, .list (dm.map Iid.av) .no] H fun r h' => ∃ (rs : List Iid) (X : AHeap), r = .list (rs.map Iid.av) .no ∧ h' = H ++ X ∧ rs.length ≤ 14 ∧ Ris rs ∧ ∀ y, y ∈ rs ↔ CanDo l dm y :=
  (readyF_ok l dm .no .no (by have := hs.len; omega) (by omega) hs.w H).mono fun r h' ⟨rs, X, h1, h2, _, h3⟩ => by
    obtain ⟨h4, h5⟩ := h3 hv
    have h6 := can_len (ris_nodup0 h4) fun y hy => (h5 y).1 hy
    have h7 := hs.len
    exact ⟨rs, X, h1, h2, by omega, h4, h5⟩
theorem lead_trans {dp : Iid → List Iid} {x y z : Iid} (h1 : Lead dp [] x y) (h2 : Lead dp [] y z) : Lead dp [] x z := by
  induction h2 with
  | first h => exact .next h1 (by simp) h
  | next _ hd h ih => exact .next ih hd h
theorem lead_un {dp : Iid → List Iid} {dn : List Iid} {x z : Iid} (h : Lead dp dn x z) : Lead dp [] x z := by
  induction h with
  | first h => exact .first h
  | next _ _ h ih => exact .next ih (by simp) h
theorem can_un {l : List Nod} {dn : List Iid} {x : Iid} (h : CanDo l [] x) (hn : x ∉ dn) : CanDo l dn x :=
  ⟨h.1, hn, fun z hz => .inl ((h.2.2 z (lead_un hz)).resolve_right (by simp))⟩
theorem can_lead {l : List Nod} {x z : Iid} (h : CanDo l [] x) (hz : Lead (dpOf l) [] x z) : CanDo l [] z :=
  ⟨(h.2.2 z hz).resolve_right (by simp), by simp, fun w hw => h.2.2 w (lead_trans hz hw)⟩
theorem reach_law (l : List Nod) (a : Iid) (dn : List Iid) (h : AHeap) : ACalls Try.prog 6 [.list (l.map Nod.av) .no, Iid.av a, .list (dn.map Iid.av) .no] h fun r h' => r = .bool true ∧ h' = h := by
  have hu := nod_uni l
  have hov := fun h => over_ok l dn .no .no h
  show ACalls _ _ [.list (l.map Nod.av) .no, .agg [iv a.e, iv a.n, iv a.o], .list (dn.map Iid.av) .no] _ _
  refine acalls_of_awp Try.func6 rfl (by simp only [List.length_cons, List.length_nil]; decide) ?_
  simp only [params_cons, params_nil]
  refine awp_seq ?_
  refine zg ?_
  refine goes_done ?_
  (try simp only [vq, if_true, reduceIte, Nat.reduceEqDiff, reduceCtorEq])
  refine awp_hard (id := h.length) (by simp -implicitDefEqProofs; rfl) ?_
  simp -implicitDefEqProofs only [Slots.melt, AV.melt, Nat.add_left_cancel_iff, Nat.add_eq_left, Nat.left_eq_add, Nat.reduceEqDiff, reduceIte, Nat.succ_ne_self, Nat.one_ne_zero, Nat.zero_ne_one, List.set_append_right, List.set_append_left, Nat.sub_self, Nat.le_refl, Nat.add_sub_cancel_left, Nat.le_add_right, List.set_cons_zero, List.set_cons_succ]
  refine awp_seq ?_
  repeat (first | ((first | refine zd ?_ | refine zx ?_ | refine zk ?_ | refine zl ?_ | refine zr ?_); refine zq ?_) | refine zs ?_ | refine zg ?_ | refine zb ?_ | refine zo ?_ | refine zt ?_ | refine zf ?_)
  refine zp (callable_of Try.func10) _ (works_ok _) ?_
  rintro _ _ ⟨rfl, XW, rfl⟩
  refine ze ?_
  refine goes_done ?_
  (try simp only [vq, if_true, reduceIte, Nat.reduceEqDiff, reduceCtorEq])
  repeat (first | ((first | refine zd ?_ | refine zx ?_ | refine zk ?_ | refine zl ?_ | refine zr ?_); refine zq ?_) | refine zs ?_ | refine zg ?_ | refine zb ?_ | refine zo ?_ | refine zt ?_ | refine zf ?_)
  refine zp (callable_of Try.func11) _ (hov _) ?_
  rintro _ _ ⟨rfl, rfl⟩
  rcases Bool.eq_false_or_eq_true (overB l dn) with ho | ho
  · rw [ho]
    refine ze ?_
    repeat (first | ((first | refine zd ?_ | refine zx ?_ | refine zk ?_ | refine zl ?_ | refine zr ?_); refine zq ?_) | refine zs ?_ | refine zg ?_ | refine zb ?_ | refine zo ?_ | refine zt ?_ | refine zf ?_)
    first | refine zy (.inr rfl) ?_ | refine zy (.inl rfl) ?_
    simp
  rw [ho]
  have hs := small_of ho
  have h14 := hs.len
  have hva := fun h => valid_ok l .no (by omega) h
  have hd14 := hs.dn
  refine ze ?_
  refine zp (callable_of Try.func16) _ (hva _) ?_
  rintro _ _ ⟨rfl, XV, rfl⟩
  rcases Bool.eq_false_or_eq_true (validB l) with hv | hv
  rotate_left
  · rw [hv]
    refine ze ?_
    repeat (first | ((first | refine zd ?_ | refine zx ?_ | refine zk ?_ | refine zl ?_ | refine zr ?_); refine zq ?_) | refine zs ?_ | refine zg ?_ | refine zb ?_ | refine zo ?_ | refine zt ?_ | refine zf ?_)
    first | refine zy (.inr rfl) ?_ | refine zy (.inl rfl) ?_
    simp
  rw [hv]
  have hre := fun f H => reach_sm hs hv f H
  have hrd := fun dm hd H => ready_sm hs hv dm hd H
  refine ze ?_
  repeat (first | ((first | refine zd ?_ | refine zx ?_ | refine zk ?_ | refine zl ?_ | refine zr ?_); refine zq ?_) | refine zs ?_ | refine zg ?_ | refine zb ?_ | refine zo ?_ | refine zt ?_ | refine zf ?_)
  refine zp (callable_of Try.func18) _ (hre a _) ?_
  rintro _ _ ⟨r, X1, rfl, rfl, hrl, hr⟩
  refine ze ?_
  refine goes_done ?_
  (try simp only [vq, if_true, reduceIte, Nat.reduceEqDiff, reduceCtorEq])
  generalize hX0 : AObj.dead :: (XW ++ (XV ++ X1)) = X0
  clear hX0
  refine awp_seq ?_
  refine AWP.mono (Q := fun e st => e = .normal ∧ ∃ X : AHeap, st.le ⟨Try.f6.ntmps, [(0, .list (l.map Nod.av) .no), (2, .list (dn.map Iid.av) .no), (7, .bool true)], h ++ X⟩) ?_ ?_
  · refine awp_seq ?_
    refine zg ?_
    refine goes_done ?_
    (try simp only [vq, if_true, reduceIte, Nat.reduceEqDiff, reduceCtorEq])
    refine awp_block ?_
    refine awp_loop (fun z st => ∃ (i : Nat) (X : AHeap), z = r.length - i ∧ i ≤ r.length ∧ st.le ⟨Try.f6.ntmps, [(0, .list (l.map Nod.av) .no), (2, .list (dn.map Iid.av) .no), (7, .bool true), (8, .list (r.map Iid.av) .no), (9, iv (i : Nat))], h ++ X⟩) r.length ?_ ?_
    rotate_left
    rintro z st ⟨i, X, rfl, hi, hle⟩
    · refine awp_le hle ?_
      clear hle
      by_cases h9 : i = r.length
      · subst h9
        have q : ¬ (r.length : Int) < (r.length : Int) := by omega
        refine awp_seq ?_
        refine awp_seq ?_
        refine zh (by simp -implicitDefEqProofs (disch := (first | omega | (simp; done) | fail)) [if_pos, if_neg, wrap_i64, tmod_pos, tdiv_pos, Int.toNat_add, q]; rfl) ?_
        refine goes_done ?_
        (try simp only [vq, if_true, reduceIte, Nat.reduceEqDiff, reduceCtorEq])
        refine awp_cond_f rfl ?_
        refine awp_exit ?_
        (try simp only [vq, if_true, reduceIte, Nat.reduceEqDiff, reduceCtorEq])
        exact ⟨trivial, X, st_keep' (by simp []) (by simp [])⟩
      · have hlt : i < r.length := by omega
        have q : (i : Int) < (r.length : Int) := by omega
        have hx2 : (r.map Iid.av)[i]? = some (Iid.av r[i]) := by simp [hlt]
        have hur : uni 3 (r.map Iid.av) = true := uni_map fun _ => rfl
        have hxr : Lead (dpOf l) [] a r[i] := (hr _).1 (List.getElem_mem hlt)
        generalize r[i] = x at *
        refine awp_seq ?_
        refine awp_seq ?_
        refine zh (by simp -implicitDefEqProofs (disch := (first | omega | (simp; done) | fail)) [if_pos, if_neg, wrap_i64, tmod_pos, tdiv_pos, Int.toNat_add, q]; rfl) ?_
        refine goes_done ?_
        (try simp only [vq, if_true, reduceIte, Nat.reduceEqDiff, reduceCtorEq])
        refine awp_cond_t rfl ?_
        refine awp_skip ?_
        simp only [vq, if_true, reduceIte, Nat.reduceEqDiff, reduceCtorEq]
        refine awp_seq ?_
        refine awp_block ?_
        refine awp_seq ?_
        repeat (first | ((first | refine zd ?_ | refine zx ?_ | refine zk ?_ | refine zl ?_ | refine zr ?_); refine zq ?_) | refine zs ?_ | refine zh (by simp -implicitDefEqProofs (disch := (first | omega | (simp; done) | fail)) [if_pos, if_neg, wrap_i64, tmod_pos, tdiv_pos, Int.toNat_add, q, hx2, hur, Iid.av, Iid.c]; rfl) ?_ | refine zb ?_ | refine zo ?_ | refine zt ?_ | refine zf ?_)
        refine zp (callable_of Try.func18) _ (hre x _) ?_
        rintro _ _ ⟨s, X2, rfl, rfl, hsl, hsm⟩
        refine ze ?_
        refine goes_done ?_
        (try simp only [vq, if_true, reduceIte, Nat.reduceEqDiff, reduceCtorEq])
        have hin : ∀ y ∈ s, y ∈ r := fun y hy => (hr y).2 (lead_trans hxr ((hsm y).1 hy))
        refine AWP.mono (Q := fun e st => e = .normal ∧ st.le ⟨Try.f6.ntmps, [(0, .list (l.map Nod.av) .no), (2, .list (dn.map Iid.av) .no), (7, .bool true), (8, .list (r.map Iid.av) .no), (9, iv (i : Nat))], h ++ (X ++ X2)⟩) ?_ ?_
        · refine awp_seq ?_
          refine zg ?_
          refine goes_done ?_
          (try simp only [vq, if_true, reduceIte, Nat.reduceEqDiff, reduceCtorEq])
          refine awp_block ?_
          refine awp_loop (fun z st => ∃ (k : Nat), z = s.length - k ∧ k ≤ s.length ∧ st.le ⟨Try.f6.ntmps, [(0, .list (l.map Nod.av) .no), (2, .list (dn.map Iid.av) .no), (7, .bool true), (8, .list (r.map Iid.av) .no), (9, iv (i : Nat)), (10, .list (s.map Iid.av) .no), (11, iv (k : Nat))], h ++ (X ++ X2)⟩) s.length ?_ ?_
          rotate_left
          rintro z st ⟨k, rfl, hk, hle⟩
          · refine awp_le hle ?_
            clear hle
            by_cases h8 : k = s.length
            · subst h8
              have qk : ¬ (s.length : Int) < (s.length : Int) := by omega
              refine awp_seq ?_
              refine awp_seq ?_
              refine zh (by simp -implicitDefEqProofs (disch := (first | omega | (simp; done) | fail)) [if_pos, if_neg, wrap_i64, tmod_pos, tdiv_pos, Int.toNat_add, qk]; rfl) ?_
              refine goes_done ?_
              (try simp only [vq, if_true, reduceIte, Nat.reduceEqDiff, reduceCtorEq])
              refine awp_cond_f rfl ?_
              refine awp_exit ?_
              (try simp only [vq, if_true, reduceIte, Nat.reduceEqDiff, reduceCtorEq])
              exact ⟨trivial, st_keep' (by simp []) (by simp [])⟩
            · have hkl : k < s.length := by omega
              have qk : (k : Int) < (s.length : Int) := by omega
              have hy2 : (s.map Iid.av)[k]? = some (Iid.av s[k]) := by simp [hkl]
              have huy : uni 3 (s.map Iid.av) = true := uni_map fun _ => rfl
              have hym : s[k] ∈ s := List.getElem_mem hkl
              generalize s[k] = y at *
              have hyr : y ∈ r := hin y hym
              have hat3 : ∀ H, ACalls Try.prog 24 [.list (r.map Iid.av) .no, .agg [iv y.e, iv y.n, iv y.o]] H fun res h' => res = iv (idxI y r) ∧ h' = H := fun H => at_ok r y .no (by omega) H
              have e1 : ¬ idxI y r < 0 := by rw [idx_lt]; simpa using hyr
              refine awp_seq ?_
              refine awp_seq ?_
              refine zh (by simp -implicitDefEqProofs (disch := (first | omega | (simp; done) | fail)) [if_pos, if_neg, wrap_i64, tmod_pos, tdiv_pos, Int.toNat_add, qk]; rfl) ?_
              refine goes_done ?_
              (try simp only [vq, if_true, reduceIte, Nat.reduceEqDiff, reduceCtorEq])
              refine awp_cond_t rfl ?_
              refine awp_skip ?_
              simp only [vq, if_true, reduceIte, Nat.reduceEqDiff, reduceCtorEq]
              refine awp_seq ?_
              refine awp_block ?_
              refine awp_seq ?_
              repeat (first | ((first | refine zd ?_ | refine zx ?_ | refine zk ?_ | refine zl ?_ | refine zr ?_); refine zq ?_) | refine zs ?_ | refine zh (by simp -implicitDefEqProofs (disch := (first | omega | (simp; done) | fail)) [if_pos, if_neg, wrap_i64, tmod_pos, tdiv_pos, Int.toNat_add, qk, hy2, huy, Iid.av, Iid.c]; rfl) ?_ | refine zb ?_ | refine zo ?_ | refine zt ?_ | refine zf ?_)
              refine zp (callable_of Try.func24) _ (hat3 _) ?_
              rintro _ _ ⟨rfl, rfl⟩
              refine goes_eq (by simp -implicitDefEqProofs (disch := (first | omega | (simp; done) | fail)) [if_pos, if_neg, wrap_i64, tmod_pos, tdiv_pos, Int.toNat_add, e1]; rfl) ?_
              refine goes_done ?_
              (try simp only [vq, if_true, reduceIte, Nat.reduceEqDiff, reduceCtorEq])
              repeat (first | ((first | refine zd ?_ | refine zx ?_ | refine zk ?_ | refine zl ?_ | refine zr ?_); refine zq ?_) | refine zs ?_ | refine zg ?_ | refine zb ?_ | refine zo ?_ | refine zt ?_ | refine zf ?_)
              exact ⟨s.length - (k + 1), by omega, k + 1, rfl, hkl, st_keep' (by simp []) (by simp [])⟩
          · exact ⟨0, rfl, by omega, st_keep' (by simp []) (by simp [])⟩
        · rintro e st2 ⟨rfl, hle⟩
          simp only [vq, if_true, reduceIte, Nat.reduceEqDiff, reduceCtorEq]
          refine awp_le hle ?_
          clear hle
          repeat (first | ((first | refine zd ?_ | refine zx ?_ | refine zk ?_ | refine zl ?_ | refine zr ?_); refine zq ?_) | refine zs ?_ | refine zg ?_ | refine zb ?_ | refine zo ?_ | refine zt ?_ | refine zf ?_)
          exact ⟨r.length - (i + 1), by omega, i + 1, X ++ X2, rfl, hlt, st_keep' (by simp []) (by simp [])⟩
    · exact ⟨0, X0, rfl, by omega, st_keep' (by simp []) (by simp [])⟩
  · rintro e st2 ⟨rfl, X, hle⟩
    simp only [vq, if_true, reduceIte, Nat.reduceEqDiff, reduceCtorEq]
    refine awp_le hle ?_
    clear hle
    have hrd0 : ∀ H, ACalls Try.prog 20 [.list (l.map Nod.av) .no, .list [] .no] H fun r h' => ∃ (rs : List Iid) (X : AHeap), r = .list (rs.map Iid.av) .no ∧ h' = H ++ X ∧ rs.length ≤ 14 ∧ Ris rs ∧ ∀ y, y ∈ rs ↔ CanDo l [] y := fun H => hrd [] (by simp) H
    refine awp_seq ?_
    repeat (first | ((first | refine zd ?_ | refine zx ?_ | refine zk ?_ | refine zl ?_ | refine zr ?_); refine zq ?_) | refine zs ?_ | refine zg ?_ | refine zb ?_ | refine zo ?_ | refine zt ?_ | refine zf ?_)
    refine zp (callable_of Try.func20) _ (hrd0 _) ?_
    rintro _ _ ⟨al, X2, rfl, rfl, hal, -, ham⟩
    refine ze ?_
    refine goes_done ?_
    (try simp only [vq, if_true, reduceIte, Nat.reduceEqDiff, reduceCtorEq])
    refine awp_seq ?_
    repeat (first | ((first | refine zd ?_ | refine zx ?_ | refine zk ?_ | refine zl ?_ | refine zr ?_); refine zq ?_) | refine zs ?_ | refine zg ?_ | refine zb ?_ | refine zo ?_ | refine zt ?_ | refine zf ?_)
    refine zp (callable_of Try.func20) _ (hrd dn (by omega) _) ?_
    rintro _ _ ⟨so, X3, rfl, rfl, hsl, -, hsm⟩
    refine ze ?_
    refine goes_done ?_
    (try simp only [vq, if_true, reduceIte, Nat.reduceEqDiff, reduceCtorEq])
    generalize hX4 : X ++ (X2 ++ X3) = X4
    clear hX4
    refine awp_seq ?_
    refine awp_seq ?_
    refine zg ?_
    refine goes_done ?_
    (try simp only [vq, if_true, reduceIte, Nat.reduceEqDiff, reduceCtorEq])
    refine awp_block ?_
    refine awp_loop (fun z st => ∃ (i : Nat) (X : AHeap), z = al.length - i ∧ i ≤ al.length ∧ st.le ⟨Try.f6.ntmps, [(0, .list (l.map Nod.av) .no), (2, .list (dn.map Iid.av) .no), (7, .bool true), (12, .list (al.map Iid.av) .no), (13, .list (so.map Iid.av) .no), (14, iv (i : Nat))], h ++ X⟩) al.length ?_ ?_
    rotate_left
    rintro z st ⟨i, X, rfl, hi, hle⟩
    · refine awp_le hle ?_
      clear hle
      by_cases h9 : i = al.length
      · subst h9
        have q : ¬ (al.length : Int) < (al.length : Int) := by omega
        repeat (first | ((first | refine zd ?_ | refine zx ?_ | refine zk ?_ | refine zl ?_ | refine zr ?_); refine zq ?_) | refine zs ?_ | refine zh (by simp -implicitDefEqProofs (disch := (first | omega | (simp; done) | fail)) [if_pos, if_neg, wrap_i64, tmod_pos, tdiv_pos, Int.toNat_add, q]; rfl) ?_ | refine zb ?_ | refine zo ?_ | refine zt ?_ | refine zf ?_)
        first | refine zy (.inr rfl) ?_ | refine zy (.inl rfl) ?_
        simp
      · have hlt : i < al.length := by omega
        have q : (i : Int) < (al.length : Int) := by omega
        have hx2 : (al.map Iid.av)[i]? = some (Iid.av al[i]) := by simp [hlt]
        have hur : uni 3 (al.map Iid.av) = true := uni_map fun _ => rfl
        have hxc : CanDo l [] al[i] := (ham _).1 (List.getElem_mem hlt)
        generalize al[i] = x at *
        have hat1 : ∀ H, ACalls Try.prog 24 [.list (dn.map Iid.av) .no, .agg [iv x.e, iv x.n, iv x.o]] H fun r h' => r = iv (idxI x dn) ∧ h' = H := fun H => at_ok dn x .no (by omega) H
        have hat2 : ∀ H, ACalls Try.prog 24 [.list (so.map Iid.av) .no, .agg [iv x.e, iv x.n, iv x.o]] H fun r h' => r = iv (idxI x so) ∧ h' = H := fun H => at_ok so x .no (by omega) H
        refine awp_seq ?_
        refine awp_seq ?_
        refine zh (by simp -implicitDefEqProofs (disch := (first | omega | (simp; done) | fail)) [if_pos, if_neg, wrap_i64, tmod_pos, tdiv_pos, Int.toNat_add, q]; rfl) ?_
        refine goes_done ?_
        (try simp only [vq, if_true, reduceIte, Nat.reduceEqDiff, reduceCtorEq])
        refine awp_cond_t rfl ?_
        refine awp_skip ?_
        simp only [vq, if_true, reduceIte, Nat.reduceEqDiff, reduceCtorEq]
        refine awp_seq ?_
        refine awp_block ?_
        refine awp_seq ?_
        refine AWP.mono (Q := fun e st => e = .normal ∧ st.le ⟨Try.f6.ntmps, [(0, .list (l.map Nod.av) .no), (2, .list (dn.map Iid.av) .no), (7, .bool true), (12, .list (al.map Iid.av) .no), (13, .list (so.map Iid.av) .no), (14, iv (i : Nat))], h ++ X⟩) ?_ ?_
        · refine awp_seq ?_
          repeat (first | ((first | refine zd ?_ | refine zx ?_ | refine zk ?_ | refine zl ?_ | refine zr ?_); refine zq ?_) | refine zs ?_ | refine zh (by simp -implicitDefEqProofs (disch := (first | omega | (simp; done) | fail)) [if_pos, if_neg, wrap_i64, tmod_pos, tdiv_pos, Int.toNat_add, q, hx2, hur, Iid.av, Iid.c]; rfl) ?_ | refine zb ?_ | refine zo ?_ | refine zt ?_ | refine zf ?_)
          refine zp (callable_of Try.func24) _ (hat1 _) ?_
          rintro _ _ ⟨rfl, rfl⟩
          by_cases hxn : x ∈ dn
          · have e1 : ¬ idxI x dn < 0 := by rw [idx_lt]; simpa using hxn
            refine goes_eq (by simp -implicitDefEqProofs (disch := (first | omega | (simp; done) | fail)) [if_pos, if_neg, wrap_i64, tmod_pos, tdiv_pos, Int.toNat_add, e1]; rfl) ?_
            refine goes_done ?_
            (try simp only [vq, if_true, reduceIte, Nat.reduceEqDiff, reduceCtorEq])
            refine awp_cond_f rfl ?_
            refine awp_skip ?_
            exact ⟨rfl, st_keep' (by simp []) (by simp [])⟩
          · have e1 : idxI x dn < 0 := idx_lt.2 hxn
            have e2 : ¬ idxI x so < 0 := by rw [idx_lt]; simpa using (hsm x).2 (can_un hxc hxn)
            refine goes_eq (by simp -implicitDefEqProofs (disch := (first | omega | (simp; done) | fail)) [if_pos, if_neg, wrap_i64, tmod_pos, tdiv_pos, Int.toNat_add, e1, q, hx2, hur, Iid.av, Iid.c]; rfl) ?_
            refine zp (callable_of Try.func24) _ (hat2 _) ?_
            rintro _ _ ⟨rfl, rfl⟩
            refine goes_eq (by simp -implicitDefEqProofs (disch := (first | omega | (simp; done) | fail)) [if_pos, if_neg, wrap_i64, tmod_pos, tdiv_pos, Int.toNat_add, e2]; rfl) ?_
            refine goes_done ?_
            (try simp only [vq, if_true, reduceIte, Nat.reduceEqDiff, reduceCtorEq])
            refine awp_cond_f rfl ?_
            refine awp_skip ?_
            exact ⟨rfl, st_keep' (by simp []) (by simp [])⟩
        · rintro e st2 ⟨rfl, hle⟩
          simp only [vq, if_true, reduceIte, Nat.reduceEqDiff, reduceCtorEq]
          refine awp_le hle ?_
          clear hle
          refine awp_seq ?_
          repeat (first | ((first | refine zd ?_ | refine zx ?_ | refine zk ?_ | refine zl ?_ | refine zr ?_); refine zq ?_) | refine zs ?_ | refine zh (by simp -implicitDefEqProofs (disch := (first | omega | (simp; done) | fail)) [if_pos, if_neg, wrap_i64, tmod_pos, tdiv_pos, Int.toNat_add, q, hx2, hur, Iid.av, Iid.c]; rfl) ?_ | refine zb ?_ | refine zo ?_ | refine zt ?_ | refine zf ?_)
          refine zp (callable_of Try.func18) _ (hre x _) ?_
          rintro _ _ ⟨s, X5, rfl, rfl, hsl5, hsm5⟩
          refine ze ?_
          refine goes_done ?_
          (try simp only [vq, if_true, reduceIte, Nat.reduceEqDiff, reduceCtorEq])
          have hin : ∀ y ∈ s, y ∈ al := fun y hy => (ham y).2 (can_lead hxc ((hsm5 y).1 hy))
          refine AWP.mono (Q := fun e st => e = .normal ∧ st.le ⟨Try.f6.ntmps, [(0, .list (l.map Nod.av) .no), (2, .list (dn.map Iid.av) .no), (7, .bool true), (12, .list (al.map Iid.av) .no), (13, .list (so.map Iid.av) .no), (14, iv (i : Nat))], h ++ (X ++ X5)⟩) ?_ ?_
          · refine awp_seq ?_
            refine zg ?_
            refine goes_done ?_
            (try simp only [vq, if_true, reduceIte, Nat.reduceEqDiff, reduceCtorEq])
            refine awp_block ?_
            refine awp_loop (fun z st => ∃ (k : Nat), z = s.length - k ∧ k ≤ s.length ∧ st.le ⟨Try.f6.ntmps, [(0, .list (l.map Nod.av) .no), (2, .list (dn.map Iid.av) .no), (7, .bool true), (12, .list (al.map Iid.av) .no), (13, .list (so.map Iid.av) .no), (14, iv (i : Nat)), (15, .list (s.map Iid.av) .no), (16, iv (k : Nat))], h ++ (X ++ X5)⟩) s.length ?_ ?_
            rotate_left
            rintro z st ⟨k, rfl, hk, hle⟩
            · refine awp_le hle ?_
              clear hle
              by_cases h8 : k = s.length
              · subst h8
                have qk : ¬ (s.length : Int) < (s.length : Int) := by omega
                refine awp_seq ?_
                refine awp_seq ?_
                refine zh (by simp -implicitDefEqProofs (disch := (first | omega | (simp; done) | fail)) [if_pos, if_neg, wrap_i64, tmod_pos, tdiv_pos, Int.toNat_add, qk]; rfl) ?_
                refine goes_done ?_
                (try simp only [vq, if_true, reduceIte, Nat.reduceEqDiff, reduceCtorEq])
                refine awp_cond_f rfl ?_
                refine awp_exit ?_
                (try simp only [vq, if_true, reduceIte, Nat.reduceEqDiff, reduceCtorEq])
                exact ⟨trivial, st_keep' (by simp []) (by simp [])⟩
              · have hkl : k < s.length := by omega
                have qk : (k : Int) < (s.length : Int) := by omega
                have hy2 : (s.map Iid.av)[k]? = some (Iid.av s[k]) := by simp [hkl]
                have huy : uni 3 (s.map Iid.av) = true := uni_map fun _ => rfl
                have hym : s[k] ∈ s := List.getElem_mem hkl
                generalize s[k] = y at *
                have hyr : y ∈ al := hin y hym
                have hat3 : ∀ H, ACalls Try.prog 24 [.list (al.map Iid.av) .no, .agg [iv y.e, iv y.n, iv y.o]] H fun res h' => res = iv (idxI y al) ∧ h' = H := fun H => at_ok al y .no (by omega) H
                have e1 : ¬ idxI y al < 0 := by rw [idx_lt]; simpa using hyr
                refine awp_seq ?_
                refine awp_seq ?_
                refine zh (by simp -implicitDefEqProofs (disch := (first | omega | (simp; done) | fail)) [if_pos, if_neg, wrap_i64, tmod_pos, tdiv_pos, Int.toNat_add, qk]; rfl) ?_
                refine goes_done ?_
                (try simp only [vq, if_true, reduceIte, Nat.reduceEqDiff, reduceCtorEq])
                refine awp_cond_t rfl ?_
                refine awp_skip ?_
                simp only [vq, if_true, reduceIte, Nat.reduceEqDiff, reduceCtorEq]
                refine awp_seq ?_
                refine awp_block ?_
                refine awp_seq ?_
                repeat (first | ((first | refine zd ?_ | refine zx ?_ | refine zk ?_ | refine zl ?_ | refine zr ?_); refine zq ?_) | refine zs ?_ | refine zh (by simp -implicitDefEqProofs (disch := (first | omega | (simp; done) | fail)) [if_pos, if_neg, wrap_i64, tmod_pos, tdiv_pos, Int.toNat_add, qk, hy2, huy, Iid.av, Iid.c]; rfl) ?_ | refine zb ?_ | refine zo ?_ | refine zt ?_ | refine zf ?_)
                refine zp (callable_of Try.func24) _ (hat3 _) ?_
                rintro _ _ ⟨rfl, rfl⟩
                refine goes_eq (by simp -implicitDefEqProofs (disch := (first | omega | (simp; done) | fail)) [if_pos, if_neg, wrap_i64, tmod_pos, tdiv_pos, Int.toNat_add, e1]; rfl) ?_
                refine goes_done ?_
                (try simp only [vq, if_true, reduceIte, Nat.reduceEqDiff, reduceCtorEq])
                repeat (first | ((first | refine zd ?_ | refine zx ?_ | refine zk ?_ | refine zl ?_ | refine zr ?_); refine zq ?_) | refine zs ?_ | refine zg ?_ | refine zb ?_ | refine zo ?_ | refine zt ?_ | refine zf ?_)
                exact ⟨s.length - (k + 1), by omega, k + 1, rfl, hkl, st_keep' (by simp []) (by simp [])⟩
            · exact ⟨0, rfl, by omega, st_keep' (by simp []) (by simp [])⟩
          · rintro e st2 ⟨rfl, hle⟩
            simp only [vq, if_true, reduceIte, Nat.reduceEqDiff, reduceCtorEq]
            refine awp_le hle ?_
            clear hle
            repeat (first | ((first | refine zd ?_ | refine zx ?_ | refine zk ?_ | refine zl ?_ | refine zr ?_); refine zq ?_) | refine zs ?_ | refine zg ?_ | refine zb ?_ | refine zo ?_ | refine zt ?_ | refine zf ?_)
            exact ⟨al.length - (i + 1), by omega, i + 1, X ++ X5, rfl, hlt, st_keep' (by simp []) (by simp [])⟩
    · exact ⟨0, X4, rfl, by omega, st_keep' (by simp []) (by simp [])⟩
end Go.Proofs.Ytajgeofhlgoifaa.G

/- Graphs: the walk of a law: what is reached. -/
set_option linter.unusedVariables false
set_option linter.unusedSimpArgs false
namespace Go.Proofs.Ytajgeofhlgoifaa.G
open Go Go.Proofs.Ytajgeofhlgoifaa.V Go.Proofs.Ytajgeofhlgoifaa.I Go.RowKit
theorem walk_GraphReach (x0 : Came) {w : World} (f0 : NodsAt w x0.v) (x1 : Came) (f1 : IdAt w x1.v) (x2 : Came) (f2 : IdsAt w x2.v) :
    Calls Try.prog 6 #[x0.v, x1.v, x2.v] w fun e w' => e = .returned (.bool true) ∧ Below w.heap.size w w' := by
  obtain ⟨a, ha⟩ := f0
  obtain ⟨b, hb⟩ := f1
  obtain ⟨c, hc⟩ := f2
  exact Law.calls (reach_law a b c []) w (vals_of (cells_cons ha (cells_cons hb (cells_cons hc (cells_nil _)))))
end Go.Proofs.Ytajgeofhlgoifaa.G
