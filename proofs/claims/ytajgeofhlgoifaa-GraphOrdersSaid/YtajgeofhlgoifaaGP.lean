import Derived.Test.YtajgeofhlgoifaaGF
import Derived.Test.YtajgeofhlgoifaaIB
/- Graphs: what is reached from one that is reached is reached. -/
set_option linter.unusedVariables false
set_option linter.unusedSimpArgs false
set_option maxRecDepth 20000
namespace Go.Proofs.Ytajgeofhlgoifaa.G
open Go Go.Proofs.Ytajgeofhlgoifaa.V Go.Proofs.Ytajgeofhlgoifaa.I Go.Sort Go.RowKit
attribute [-simp] List.length_flatten List.map_flatten
theorem reach_sm {l : List Nod} {dn : List Iid} (hs : Small l dn) (hv : validB l = true) (f : Iid) (H : AHeap) : ACalls Try.prog 18 [.list (l.map Nod.av) .no, .agg [iv f.e, iv f.n, iv f.o]] H fun r h' => ∃ (rs : List Iid) (X : AHeap), r = .list (rs.map Iid.av) .no ∧ h' = H ++ X ∧ rs.length ≤ 196 ∧ ∀ y, y ∈ rs ↔ Lead (dpOf l) [] f y :=
  (reach_ok l f .no (by have := hs.len; omega) (hs.w f) H).mono fun r h' ⟨rs, X, h1, h2, _, h3⟩ => by
    obtain ⟨h4, h5⟩ := h3 hv
    have h6 := lead_len (ris_nodup0 h4) fun y hy => (h5 y).1 hy
    have h7 := hs.sum
    exact ⟨rs, X, h1, h2, by omega, h5⟩
theorem ready_sm {l : List Nod} {dn : List Iid} (hs : Small l dn) (hv : validB l = true) (dm : List Iid) (hd : dm.length ≤ 1000) (H : AHeap) : ACalls Try.prog 20 [.list (l.map Nod.av) .no, .list (dm.map Iid.av) .no] H fun r h' => ∃ (rs : List Iid) (X : AHeap), r = .list (rs.map Iid.av) .no ∧ h' = H ++ X ∧ rs.length ≤ 14 ∧ Ris rs ∧ ∀ y, y ∈ rs ↔ CanDo l dm y :=
  (readyF_ok l dm .no .no (by have := hs.len; omega) (by omega) hs.w H).mono fun r h' ⟨rs, X, h1, h2, _, h3⟩ => by
    obtain ⟨h4, h5⟩ := h3 hv
    have h6 := can_len (ris_nodup0 h4) fun y hy => (h5 y).1 hy
    have h7 := hs.len
    exact ⟨rs, X, h1, h2, by omega, h4, h5⟩
theorem lead_trans {dp : Iid → List Iid} {x y z : Iid} (h1 : Lead dp [] x y) (h2 : Lead dp [] y z) : Lead dp [] x z := by
  induction h2 with
  | first h => exact .next h1 (by simp) h
  | next _ hd h ih => exact .next ih hd h
theorem lead_un {dp : Iid → List Iid} {dn : List Iid} {x z : Iid} (h : Lead dp dn x z) : Lead dp [] x z := by
  induction h with
  | first h => exact .first h
  | next _ _ h ih => exact .next ih (by simp) h
theorem can_un {l : List Nod} {dn : List Iid} {x : Iid} (h : CanDo l [] x) (hn : x ∉ dn) : CanDo l dn x :=
  ⟨h.1, hn, fun z hz => .inl ((h.2.2 z (lead_un hz)).resolve_right (by simp))⟩
theorem can_lead {l : List Nod} {x z : Iid} (h : CanDo l [] x) (hz : Lead (dpOf l) [] x z) : CanDo l [] z :=
  ⟨(h.2.2 z hz).resolve_right (by simp), by simp, fun w hw => h.2.2 w (lead_trans hz hw)⟩
theorem reach_law (l : List Nod) (a : Iid) (dn : List Iid) (h : AHeap) : ACalls Try.prog 6 [.list (l.map Nod.av) .no, Iid.av a, .list (dn.map Iid.av) .no] h fun r h' => r = .bool true ∧ h' = h := by
  have hu := nod_uni l
  have hov := fun h => over_ok l dn .no .no h
  show ACalls _ _ [.list (l.map Nod.av) .no, .agg [iv a.e, iv a.n, iv a.o], .list (dn.map Iid.av) .no] _ _
  refine acalls_of_awp Try.func6 rfl (by simp only [List.length_cons, List.length_nil]; decide) ?_
  simp only [params_cons, params_nil]
  refine awp_seq ?_
  refine zg ?_
  refine goes_done ?_
  (try simp only [vq, if_true, reduceIte, Nat.reduceEqDiff, reduceCtorEq])
  refine awp_hard (id := h.length) (by simp -implicitDefEqProofs; rfl) ?_
  simp -implicitDefEqProofs only [Slots.melt, AV.melt, Nat.add_left_cancel_iff, Nat.add_eq_left, Nat.left_eq_add, Nat.reduceEqDiff, reduceIte, Nat.succ_ne_self, Nat.one_ne_zero, Nat.zero_ne_one, List.set_append_right, List.set_append_left, Nat.sub_self, Nat.le_refl, Nat.add_sub_cancel_left, Nat.le_add_right, List.set_cons_zero, List.set_cons_succ]
  refine awp_seq ?_
  repeat (first | ((first | refine zd ?_ | refine zx ?_ | refine zk ?_ | refine zl ?_ | refine zr ?_); refine zq ?_) | refine zs ?_ | refine zg ?_ | refine zb ?_ | refine zo ?_ | refine zt ?_ | refine zf ?_)
  refine zp (callable_of Try.func10) _ (works_ok _) ?_
  rintro _ _ ⟨rfl, XW, rfl⟩
  refine ze ?_
  refine goes_done ?_
  (try simp only [vq, if_true, reduceIte, Nat.reduceEqDiff, reduceCtorEq])
  repeat (first | ((first | refine zd ?_ | refine zx ?_ | refine zk ?_ | refine zl ?_ | refine zr ?_); refine zq ?_) | refine zs ?_ | refine zg ?_ | refine zb ?_ | refine zo ?_ | refine zt ?_ | refine zf ?_)
  refine zp (callable_of Try.func11) _ (hov _) ?_
  rintro _ _ ⟨rfl, rfl⟩
  rcases Bool.eq_false_or_eq_true (overB l dn) with ho | ho
  · rw [ho]
    refine ze ?_
    repeat (first | ((first | refine zd ?_ | refine zx ?_ | refine zk ?_ | refine zl ?_ | refine zr ?_); refine zq ?_) | refine zs ?_ | refine zg ?_ | refine zb ?_ | refine zo ?_ | refine zt ?_ | refine zf ?_)
    first | refine zy (.inr rfl) ?_ | refine zy (.inl rfl) ?_
    simp
  rw [ho]
  have hs := small_of ho
  have h14 := hs.len
  have hva := fun h => valid_ok l .no (by omega) h
  have hd14 := hs.dn
  refine ze ?_
  refine zp (callable_of Try.func16) _ (hva _) ?_
  rintro _ _ ⟨rfl, XV, rfl⟩
  rcases Bool.eq_false_or_eq_true (validB l) with hv | hv
  rotate_left
  · rw [hv]
    refine ze ?_
    repeat (first | ((first | refine zd ?_ | refine zx ?_ | refine zk ?_ | refine zl ?_ | refine zr ?_); refine zq ?_) | refine zs ?_ | refine zg ?_ | refine zb ?_ | refine zo ?_ | refine zt ?_ | refine zf ?_)
    first | refine zy (.inr rfl) ?_ | refine zy (.inl rfl) ?_
    simp
  rw [hv]
  have hre := fun f H => reach_sm hs hv f H
  have hrd := fun dm hd H => ready_sm hs hv dm hd H
  refine ze ?_
  repeat (first | ((first | refine zd ?_ | refine zx ?_ | refine zk ?_ | refine zl ?_ | refine zr ?_); refine zq ?_) | refine zs ?_ | refine zg ?_ | refine zb ?_ | refine zo ?_ | refine zt ?_ | refine zf ?_)
  refine zp (callable_of Try.func18) _ (hre a _) ?_
  rintro _ _ ⟨r, X1, rfl, rfl, hrl, hr⟩
  refine ze ?_
  refine goes_done ?_
  (try simp only [vq, if_true, reduceIte, Nat.reduceEqDiff, reduceCtorEq])
  generalize hX0 : AObj.dead :: (XW ++ (XV ++ X1)) = X0
  clear hX0
  refine awp_seq ?_
  refine AWP.mono (Q := fun e st => e = .normal ∧ ∃ X : AHeap, st.le ⟨Try.f6.ntmps, [(0, .list (l.map Nod.av) .no), (2, .list (dn.map Iid.av) .no), (7, .bool true)], h ++ X⟩) ?_ ?_
  · refine awp_seq ?_
    refine zg ?_
    refine goes_done ?_
    (try simp only [vq, if_true, reduceIte, Nat.reduceEqDiff, reduceCtorEq])
    refine awp_block ?_
    refine awp_loop (fun z st => ∃ (i : Nat) (X : AHeap), z = r.length - i ∧ i ≤ r.length ∧ st.le ⟨Try.f6.ntmps, [(0, .list (l.map Nod.av) .no), (2, .list (dn.map Iid.av) .no), (7, .bool true), (8, .list (r.map Iid.av) .no), (9, iv (i : Nat))], h ++ X⟩) r.length ?_ ?_
    rotate_left
    rintro z st ⟨i, X, rfl, hi, hle⟩
    · refine awp_le hle ?_
      clear hle
      by_cases h9 : i = r.length
      · subst h9
        have q : ¬ (r.length : Int) < (r.length : Int) := by omega
        refine awp_seq ?_
        refine awp_seq ?_
        refine zh (by simp -implicitDefEqProofs (disch := (first | omega | (simp; done) | fail)) [if_pos, if_neg, wrap_i64, tmod_pos, tdiv_pos, Int.toNat_add, q]; rfl) ?_
        refine goes_done ?_
        (try simp only [vq, if_true, reduceIte, Nat.reduceEqDiff, reduceCtorEq])
        refine awp_cond_f rfl ?_
        refine awp_exit ?_
        (try simp only [vq, if_true, reduceIte, Nat.reduceEqDiff, reduceCtorEq])
        exact ⟨trivial, X, st_keep' (by simp []) (by simp [])⟩
      · have hlt : i < r.length := by omega
        have q : (i : Int) < (r.length : Int) := by omega
        have hx2 : (r.map Iid.av)[i]? = some (Iid.av r[i]) := by simp [hlt]
        have hur : uni 3 (r.map Iid.av) = true := uni_map fun _ => rfl
        have hxr : Lead (dpOf l) [] a r[i] := (hr _).1 (List.getElem_mem hlt)
        generalize r[i] = x at *
        refine awp_seq ?_
        refine awp_seq ?_
        refine zh (by simp -implicitDefEqProofs (disch := (first | omega | (simp; done) | fail)) [if_pos, if_neg, wrap_i64, tmod_pos, tdiv_pos, Int.toNat_add, q]; rfl) ?_
        refine goes_done ?_
        (try simp only [vq, if_true, reduceIte, Nat.reduceEqDiff, reduceCtorEq])
        refine awp_cond_t rfl ?_
        refine awp_skip ?_
        simp only [vq, if_true, reduceIte, Nat.reduceEqDiff, reduceCtorEq]
        refine awp_seq ?_
        refine awp_block ?_
        refine awp_seq ?_
        repeat (first | ((first | refine zd ?_ | refine zx ?_ | refine zk ?_ | refine zl ?_ | refine zr ?_); refine zq ?_) | refine zs ?_ | refine zh (by simp -implicitDefEqProofs (disch := (first | omega | (simp; done) | fail)) [if_pos, if_neg, wrap_i64, tmod_pos, tdiv_pos, Int.toNat_add, q, hx2, hur, Iid.av, Iid.c]; rfl) ?_ | refine zb ?_ | refine zo ?_ | refine zt ?_ | refine zf ?_)
        refine zp (callable_of Try.func18) _ (hre x _) ?_
        rintro _ _ ⟨s, X2, rfl, rfl, hsl, hsm⟩
        refine ze ?_
        refine goes_done ?_
        (try simp only [vq, if_true, reduceIte, Nat.reduceEqDiff, reduceCtorEq])
        have hin : ∀ y ∈ s, y ∈ r := fun y hy => (hr y).2 (lead_trans hxr ((hsm y).1 hy))
        refine AWP.mono (Q := fun e st => e = .normal ∧ st.le ⟨Try.f6.ntmps, [(0, .list (l.map Nod.av) .no), (2, .list (dn.map Iid.av) .no), (7, .bool true), (8, .list (r.map Iid.av) .no), (9, iv (i : Nat))], h ++ (X ++ X2)⟩) ?_ ?_
        · refine awp_seq ?_
          refine zg ?_
          refine goes_done ?_
          (try simp only [vq, if_true, reduceIte, Nat.reduceEqDiff, reduceCtorEq])
          refine awp_block ?_
          refine awp_loop (fun z st => ∃ (k : Nat), z = s.length - k ∧ k ≤ s.length ∧ st.le ⟨Try.f6.ntmps, [(0, .list (l.map Nod.av) .no), (2, .list (dn.map Iid.av) .no), (7, .bool true), (8, .list (r.map Iid.av) .no), (9, iv (i : Nat)), (10, .list (s.map Iid.av) .no), (11, iv (k : Nat))], h ++ (X ++ X2)⟩) s.length ?_ ?_
          rotate_left
          rintro z st ⟨k, rfl, hk, hle⟩
          · refine awp_le hle ?_
            clear hle
            by_cases h8 : k = s.length
            · subst h8
              have qk : ¬ (s.length : Int) < (s.length : Int) := by omega
              refine awp_seq ?_
              refine awp_seq ?_
              refine zh (by simp -implicitDefEqProofs (disch := (first | omega | (simp; done) | fail)) [if_pos, if_neg, wrap_i64, tmod_pos, tdiv_pos, Int.toNat_add, qk]; rfl) ?_
              refine goes_done ?_
              (try simp only [vq, if_true, reduceIte, Nat.reduceEqDiff, reduceCtorEq])
              refine awp_cond_f rfl ?_
              refine awp_exit ?_
              (try simp only [vq, if_true, reduceIte, Nat.reduceEqDiff, reduceCtorEq])
              exact ⟨trivial, st_keep' (by simp []) (by simp [])⟩
            · have hkl : k < s.length := by omega
              have qk : (k : Int) < (s.length : Int) := by omega
              have hy2 : (s.map Iid.av)[k]? = some (Iid.av s[k]) := by simp [hkl]
              have huy : uni 3 (s.map Iid.av) = true := uni_map fun _ => rfl
              have hym : s[k] ∈ s := List.getElem_mem hkl
              generalize s[k] = y at *
              have hyr : y ∈ r := hin y hym
              have hat3 : ∀ H, ACalls Try.prog 24 [.list (r.map Iid.av) .no, .agg [iv y.e, iv y.n, iv y.o]] H fun res h' => res = iv (idxI y r) ∧ h' = H := fun H => at_ok r y .no (by omega) H
              have e1 : ¬ idxI y r < 0 := by rw [idx_lt]; simpa using hyr
              refine awp_seq ?_
              refine awp_seq ?_
              refine zh (by simp -implicitDefEqProofs (disch := (first | omega | (simp; done) | fail)) [if_pos, if_neg, wrap_i64, tmod_pos, tdiv_pos, Int.toNat_add, qk]; rfl) ?_
              refine goes_done ?_
              (try simp only [vq, if_true, reduceIte, Nat.reduceEqDiff, reduceCtorEq])
              refine awp_cond_t rfl ?_
              refine awp_skip ?_
              simp only [vq, if_true, reduceIte, Nat.reduceEqDiff, reduceCtorEq]
              refine awp_seq ?_
              refine awp_block ?_
              refine awp_seq ?_
              repeat (first | ((first | refine zd ?_ | refine zx ?_ | refine zk ?_ | refine zl ?_ | refine zr ?_); refine zq ?_) | refine zs ?_ | refine zh (by simp -implicitDefEqProofs (disch := (first | omega | (simp; done) | fail)) [if_pos, if_neg, wrap_i64, tmod_pos, tdiv_pos, Int.toNat_add, qk, hy2, huy, Iid.av, Iid.c]; rfl) ?_ | refine zb ?_ | refine zo ?_ | refine zt ?_ | refine zf ?_)
              refine zp (callable_of Try.func24) _ (hat3 _) ?_
              rintro _ _ ⟨rfl, rfl⟩
              refine goes_eq (by simp -implicitDefEqProofs (disch := (first | omega | (simp; done) | fail)) [if_pos, if_neg, wrap_i64, tmod_pos, tdiv_pos, Int.toNat_add, e1]; rfl) ?_
              refine goes_done ?_
              (try simp only [vq, if_true, reduceIte, Nat.reduceEqDiff, reduceCtorEq])
              repeat (first | ((first | refine zd ?_ | refine zx ?_ | refine zk ?_ | refine zl ?_ | refine zr ?_); refine zq ?_) | refine zs ?_ | refine zg ?_ | refine zb ?_ | refine zo ?_ | refine zt ?_ | refine zf ?_)
              exact ⟨s.length - (k + 1), by omega, k + 1, rfl, hkl, st_keep' (by simp []) (by simp [])⟩
          · exact ⟨0, rfl, by omega, st_keep' (by simp []) (by simp [])⟩
        · rintro e st2 ⟨rfl, hle⟩
          simp only [vq, if_true, reduceIte, Nat.reduceEqDiff, reduceCtorEq]
          refine awp_le hle ?_
          clear hle
          repeat (first | ((first | refine zd ?_ | refine zx ?_ | refine zk ?_ | refine zl ?_ | refine zr ?_); refine zq ?_) | refine zs ?_ | refine zg ?_ | refine zb ?_ | refine zo ?_ | refine zt ?_ | refine zf ?_)
          exact ⟨r.length - (i + 1), by omega, i + 1, X ++ X2, rfl, hlt, st_keep' (by simp []) (by simp [])⟩
    · exact ⟨0, X0, rfl, by omega, st_keep' (by simp []) (by simp [])⟩
  · rintro e st2 ⟨rfl, X, hle⟩
    simp only [vq, if_true, reduceIte, Nat.reduceEqDiff, reduceCtorEq]
    refine awp_le hle ?_
    clear hle
    have hrd0 : ∀ H, ACalls Try.prog 20 [.list (l.map Nod.av) .no, .list [] .no] H fun r h' => ∃ (rs : List Iid) (X : AHeap), r = .list (rs.map Iid.av) .no ∧ h' = H ++ X ∧ rs.length ≤ 14 ∧ Ris rs ∧ ∀ y, y ∈ rs ↔ CanDo l [] y := fun H => hrd [] (by simp) H
    refine awp_seq ?_
    repeat (first | ((first | refine zd ?_ | refine zx ?_ | refine zk ?_ | refine zl ?_ | refine zr ?_); refine zq ?_) | refine zs ?_ | refine zg ?_ | refine zb ?_ | refine zo ?_ | refine zt ?_ | refine zf ?_)
    refine zp (callable_of Try.func20) _ (hrd0 _) ?_
    rintro _ _ ⟨al, X2, rfl, rfl, hal, -, ham⟩
    refine ze ?_
    refine goes_done ?_
    (try simp only [vq, if_true, reduceIte, Nat.reduceEqDiff, reduceCtorEq])
    refine awp_seq ?_
    repeat (first | ((first | refine zd ?_ | refine zx ?_ | refine zk ?_ | refine zl ?_ | refine zr ?_); refine zq ?_) | refine zs ?_ | refine zg ?_ | refine zb ?_ | refine zo ?_ | refine zt ?_ | refine zf ?_)
    refine zp (callable_of Try.func20) _ (hrd dn (by omega) _) ?_
    rintro _ _ ⟨so, X3, rfl, rfl, hsl, -, hsm⟩
    refine ze ?_
    refine goes_done ?_
    (try simp only [vq, if_true, reduceIte, Nat.reduceEqDiff, reduceCtorEq])
    generalize hX4 : X ++ (X2 ++ X3) = X4
    clear hX4
    refine awp_seq ?_
    refine awp_seq ?_
    refine zg ?_
    refine goes_done ?_
    (try simp only [vq, if_true, reduceIte, Nat.reduceEqDiff, reduceCtorEq])
    refine awp_block ?_
    refine awp_loop (fun z st => ∃ (i : Nat) (X : AHeap), z = al.length - i ∧ i ≤ al.length ∧ st.le ⟨Try.f6.ntmps, [(0, .list (l.map Nod.av) .no), (2, .list (dn.map Iid.av) .no), (7, .bool true), (12, .list (al.map Iid.av) .no), (13, .list (so.map Iid.av) .no), (14, iv (i : Nat))], h ++ X⟩) al.length ?_ ?_
    rotate_left
    rintro z st ⟨i, X, rfl, hi, hle⟩
    · refine awp_le hle ?_
      clear hle
      by_cases h9 : i = al.length
      · subst h9
        have q : ¬ (al.length : Int) < (al.length : Int) := by omega
        repeat (first | ((first | refine zd ?_ | refine zx ?_ | refine zk ?_ | refine zl ?_ | refine zr ?_); refine zq ?_) | refine zs ?_ | refine zh (by simp -implicitDefEqProofs (disch := (first | omega | (simp; done) | fail)) [if_pos, if_neg, wrap_i64, tmod_pos, tdiv_pos, Int.toNat_add, q]; rfl) ?_ | refine zb ?_ | refine zo ?_ | refine zt ?_ | refine zf ?_)
        first | refine zy (.inr rfl) ?_ | refine zy (.inl rfl) ?_
        simp
      · have hlt : i < al.length := by omega
        have q : (i : Int) < (al.length : Int) := by omega
        have hx2 : (al.map Iid.av)[i]? = some (Iid.av al[i]) := by simp [hlt]
        have hur : uni 3 (al.map Iid.av) = true := uni_map fun _ => rfl
        have hxc : CanDo l [] al[i] := (ham _).1 (List.getElem_mem hlt)
        generalize al[i] = x at *
        have hat1 : ∀ H, ACalls Try.prog 24 [.list (dn.map Iid.av) .no, .agg [iv x.e, iv x.n, iv x.o]] H fun r h' => r = iv (idxI x dn) ∧ h' = H := fun H => at_ok dn x .no (by omega) H
        have hat2 : ∀ H, ACalls Try.prog 24 [.list (so.map Iid.av) .no, .agg [iv x.e, iv x.n, iv x.o]] H fun r h' => r = iv (idxI x so) ∧ h' = H := fun H => at_ok so x .no (by omega) H
        refine awp_seq ?_
        refine awp_seq ?_
        refine zh (by simp -implicitDefEqProofs (disch := (first | omega | (simp; done) | fail)) [if_pos, if_neg, wrap_i64, tmod_pos, tdiv_pos, Int.toNat_add, q]; rfl) ?_
        refine goes_done ?_
        (try simp only [vq, if_true, reduceIte, Nat.reduceEqDiff, reduceCtorEq])
        refine awp_cond_t rfl ?_
        refine awp_skip ?_
        simp only [vq, if_true, reduceIte, Nat.reduceEqDiff, reduceCtorEq]
        refine awp_seq ?_
        refine awp_block ?_
        refine awp_seq ?_
        refine AWP.mono (Q := fun e st => e = .normal ∧ st.le ⟨Try.f6.ntmps, [(0, .list (l.map Nod.av) .no), (2, .list (dn.map Iid.av) .no), (7, .bool true), (12, .list (al.map Iid.av) .no), (13, .list (so.map Iid.av) .no), (14, iv (i : Nat))], h ++ X⟩) ?_ ?_
        · refine awp_seq ?_
          repeat (first | ((first | refine zd ?_ | refine zx ?_ | refine zk ?_ | refine zl ?_ | refine zr ?_); refine zq ?_) | refine zs ?_ | refine zh (by simp -implicitDefEqProofs (disch := (first | omega | (simp; done) | fail)) [if_pos, if_neg, wrap_i64, tmod_pos, tdiv_pos, Int.toNat_add, q, hx2, hur, Iid.av, Iid.c]; rfl) ?_ | refine zb ?_ | refine zo ?_ | refine zt ?_ | refine zf ?_)
          refine zp (callable_of Try.func24) _ (hat1 _) ?_
          rintro _ _ ⟨rfl, rfl⟩
          by_cases hxn : x ∈ dn
          · have e1 : ¬ idxI x dn < 0 := by rw [idx_lt]; simpa using hxn
            refine goes_eq (by simp -implicitDefEqProofs (disch := (first | omega | (simp; done) | fail)) [if_pos, if_neg, wrap_i64, tmod_pos, tdiv_pos, Int.toNat_add, e1]; rfl) ?_
            refine goes_done ?_
            (try simp only [vq, if_true, reduceIte, Nat.reduceEqDiff, reduceCtorEq])
            refine awp_cond_f rfl ?_
            refine awp_skip ?_
            exact ⟨rfl, st_keep' (by simp []) (by simp [])⟩
          · have e1 : idxI x dn < 0 := idx_lt.2 hxn
            have e2 : ¬ idxI x so < 0 := by rw [idx_lt]; simpa using (hsm x).2 (can_un hxc hxn)
            refine goes_eq (by simp -implicitDefEqProofs (disch := (first | omega | (simp; done) | fail)) [if_pos, if_neg, wrap_i64, tmod_pos, tdiv_pos, Int.toNat_add, e1, q, hx2, hur, Iid.av, Iid.c]; rfl) ?_
            refine zp (callable_of Try.func24) _ (hat2 _) ?_
            rintro _ _ ⟨rfl, rfl⟩
            refine goes_eq (by simp -implicitDefEqProofs (disch := (first | omega | (simp; done) | fail)) [if_pos, if_neg, wrap_i64, tmod_pos, tdiv_pos, Int.toNat_add, e2]; rfl) ?_
            refine goes_done ?_
            (try simp only [vq, if_true, reduceIte, Nat.reduceEqDiff, reduceCtorEq])
            refine awp_cond_f rfl ?_
            refine awp_skip ?_
            exact ⟨rfl, st_keep' (by simp []) (by simp [])⟩
        · rintro e st2 ⟨rfl, hle⟩
          simp only [vq, if_true, reduceIte, Nat.reduceEqDiff, reduceCtorEq]
          refine awp_le hle ?_
          clear hle
          refine awp_seq ?_
          repeat (first | ((first | refine zd ?_ | refine zx ?_ | refine zk ?_ | refine zl ?_ | refine zr ?_); refine zq ?_) | refine zs ?_ | refine zh (by simp -implicitDefEqProofs (disch := (first | omega | (simp; done) | fail)) [if_pos, if_neg, wrap_i64, tmod_pos, tdiv_pos, Int.toNat_add, q, hx2, hur, Iid.av, Iid.c]; rfl) ?_ | refine zb ?_ | refine zo ?_ | refine zt ?_ | refine zf ?_)
          refine zp (callable_of Try.func18) _ (hre x _) ?_
          rintro _ _ ⟨s, X5, rfl, rfl, hsl5, hsm5⟩
          refine ze ?_
          refine goes_done ?_
          (try simp only [vq, if_true, reduceIte, Nat.reduceEqDiff, reduceCtorEq])
          have hin : ∀ y ∈ s, y ∈ al := fun y hy => (ham y).2 (can_lead hxc ((hsm5 y).1 hy))
          refine AWP.mono (Q := fun e st => e = .normal ∧ st.le ⟨Try.f6.ntmps, [(0, .list (l.map Nod.av) .no), (2, .list (dn.map Iid.av) .no), (7, .bool true), (12, .list (al.map Iid.av) .no), (13, .list (so.map Iid.av) .no), (14, iv (i : Nat))], h ++ (X ++ X5)⟩) ?_ ?_
          · refine awp_seq ?_
            refine zg ?_
            refine goes_done ?_
            (try simp only [vq, if_true, reduceIte, Nat.reduceEqDiff, reduceCtorEq])
            refine awp_block ?_
            refine awp_loop (fun z st => ∃ (k : Nat), z = s.length - k ∧ k ≤ s.length ∧ st.le ⟨Try.f6.ntmps, [(0, .list (l.map Nod.av) .no), (2, .list (dn.map Iid.av) .no), (7, .bool true), (12, .list (al.map Iid.av) .no), (13, .list (so.map Iid.av) .no), (14, iv (i : Nat)), (15, .list (s.map Iid.av) .no), (16, iv (k : Nat))], h ++ (X ++ X5)⟩) s.length ?_ ?_
            rotate_left
            rintro z st ⟨k, rfl, hk, hle⟩
            · refine awp_le hle ?_
              clear hle
              by_cases h8 : k = s.length
              · subst h8
                have qk : ¬ (s.length : Int) < (s.length : Int) := by omega
                refine awp_seq ?_
                refine awp_seq ?_
                refine zh (by simp -implicitDefEqProofs (disch := (first | omega | (simp; done) | fail)) [if_pos, if_neg, wrap_i64, tmod_pos, tdiv_pos, Int.toNat_add, qk]; rfl) ?_
                refine goes_done ?_
                (try simp only [vq, if_true, reduceIte, Nat.reduceEqDiff, reduceCtorEq])
                refine awp_cond_f rfl ?_
                refine awp_exit ?_
                (try simp only [vq, if_true, reduceIte, Nat.reduceEqDiff, reduceCtorEq])
                exact ⟨trivial, st_keep' (by simp []) (by simp [])⟩
              · have hkl : k < s.length := by omega
                have qk : (k : Int) < (s.length : Int) := by omega
                have hy2 : (s.map Iid.av)[k]? = some (Iid.av s[k]) := by simp [hkl]
                have huy : uni 3 (s.map Iid.av) = true := uni_map fun _ => rfl
                have hym : s[k] ∈ s := List.getElem_mem hkl
                generalize s[k] = y at *
                have hyr : y ∈ al := hin y hym
                have hat3 : ∀ H, ACalls Try.prog 24 [.list (al.map Iid.av) .no, .agg [iv y.e, iv y.n, iv y.o]] H fun res h' => res = iv (idxI y al) ∧ h' = H := fun H => at_ok al y .no (by omega) H
                have e1 : ¬ idxI y al < 0 := by rw [idx_lt]; simpa using hyr
                refine awp_seq ?_
                refine awp_seq ?_
                refine zh (by simp -implicitDefEqProofs (disch := (first | omega | (simp; done) | fail)) [if_pos, if_neg, wrap_i64, tmod_pos, tdiv_pos, Int.toNat_add, qk]; rfl) ?_
                refine goes_done ?_
                (try simp only [vq, if_true, reduceIte, Nat.reduceEqDiff, reduceCtorEq])
                refine awp_cond_t rfl ?_
                refine awp_skip ?_
                simp only [vq, if_true, reduceIte, Nat.reduceEqDiff, reduceCtorEq]
                refine awp_seq ?_
                refine awp_block ?_
                refine awp_seq ?_
                repeat (first | ((first | refine zd ?_ | refine zx ?_ | refine zk ?_ | refine zl ?_ | refine zr ?_); refine zq ?_) | refine zs ?_ | refine zh (by simp -implicitDefEqProofs (disch := (first | omega | (simp; done) | fail)) [if_pos, if_neg, wrap_i64, tmod_pos, tdiv_pos, Int.toNat_add, qk, hy2, huy, Iid.av, Iid.c]; rfl) ?_ | refine zb ?_ | refine zo ?_ | refine zt ?_ | refine zf ?_)
                refine zp (callable_of Try.func24) _ (hat3 _) ?_
                rintro _ _ ⟨rfl, rfl⟩
                refine goes_eq (by simp -implicitDefEqProofs (disch := (first | omega | (simp; done) | fail)) [if_pos, if_neg, wrap_i64, tmod_pos, tdiv_pos, Int.toNat_add, e1]; rfl) ?_
                refine goes_done ?_
                (try simp only [vq, if_true, reduceIte, Nat.reduceEqDiff, reduceCtorEq])
                repeat (first | ((first | refine zd ?_ | refine zx ?_ | refine zk ?_ | refine zl ?_ | refine zr ?_); refine zq ?_) | refine zs ?_ | refine zg ?_ | refine zb ?_ | refine zo ?_ | refine zt ?_ | refine zf ?_)
                exact ⟨s.length - (k + 1), by omega, k + 1, rfl, hkl, st_keep' (by simp []) (by simp [])⟩
            · exact ⟨0, rfl, by omega, st_keep' (by simp []) (by simp [])⟩
          · rintro e st2 ⟨rfl, hle⟩
            simp only [vq, if_true, reduceIte, Nat.reduceEqDiff, reduceCtorEq]
            refine awp_le hle ?_
            clear hle
            repeat (first | ((first | refine zd ?_ | refine zx ?_ | refine zk ?_ | refine zl ?_ | refine zr ?_); refine zq ?_) | refine zs ?_ | refine zg ?_ | refine zb ?_ | refine zo ?_ | refine zt ?_ | refine zf ?_)
            exact ⟨al.length - (i + 1), by omega, i + 1, X ++ X5, rfl, hlt, st_keep' (by simp []) (by simp [])⟩
    · exact ⟨0, X4, rfl, by omega, st_keep' (by simp []) (by simp [])⟩
end Go.Proofs.Ytajgeofhlgoifaa.G

/- Graphs: are two lists the same? -/
set_option linter.unusedVariables false
set_option linter.unusedSimpArgs false
set_option maxRecDepth 20000
namespace Go.Proofs.Ytajgeofhlgoifaa.G
open Go Go.Proofs.Ytajgeofhlgoifaa.V Go.Proofs.Ytajgeofhlgoifaa.I Go.Sort Go.RowKit
theorem row_ok (a b : List Iid) (t u : Tok) (ha : a.length ≤ 100000) (h : AHeap) : ACalls Try.prog 17 [.list (a.map Iid.av) t, .list (b.map Iid.av) u] h fun r h' => r = .bool (decide (a = b)) ∧ h' = h := by
  have hua : uni 3 (a.map Iid.av) = true := uni_map fun _ => rfl
  have hub : uni 3 (b.map Iid.av) = true := uni_map fun _ => rfl
  refine acalls_of_awp Try.func17 rfl (by simp only [List.length_cons, List.length_nil]; decide) ?_
  simp only [params_cons, params_nil]
  by_cases hlen : a.length = b.length
  case neg =>
    have hb : ((a.length : Int) != (b.length : Int)) = true := by simp; omega
    have hne : a ≠ b := fun e => hlen (by rw [e])
    repeat (first | ((first | refine zd ?_ | refine zx ?_ | refine zk ?_ | refine zl ?_ | refine zr ?_); refine zq ?_) | refine zs ?_ | refine zh (by simp -implicitDefEqProofs (disch := (first | omega | (simp; done) | fail)) [if_pos, if_neg, wrap_i64, tmod_pos, tdiv_pos, Int.toNat_add, hb]; rfl) ?_ | refine zb ?_ | refine zo ?_ | refine zt ?_ | refine zf ?_)
    first | refine zY (.inr rfl) ?_ | refine zY (.inl rfl) ?_
    simp [hne]
  repeat (first | ((first | refine zd ?_ | refine zx ?_ | refine zk ?_ | refine zl ?_ | refine zr ?_); refine zq ?_) | refine zs ?_ | refine zh (by simp -implicitDefEqProofs (disch := (first | omega | (simp; done) | fail)) [if_pos, if_neg, wrap_i64, tmod_pos, tdiv_pos, Int.toNat_add, hlen]; rfl) ?_ | refine zb ?_ | refine zo ?_ | refine zt ?_ | refine zf ?_)
  refine awp_loop (fun z st => ∃ (j : Nat), z = b.length - j ∧ j ≤ b.length ∧ a.take j = b.take j ∧ st.le ⟨Try.f17.ntmps, [(0, .list (a.map Iid.av) t), (1, .list (b.map Iid.av) u), (5, iv (j : Nat))], h⟩) b.length ?_ ?_
  rotate_left
  rintro z st ⟨j, rfl, hj, htk, hle⟩
  · refine awp_le hle ?_
    clear hle
    by_cases h10 : j = b.length
    · subst h10
      have q5 : ¬ (b.length : Int) < (b.length : Int) := by omega
      rw [← hlen, List.take_length, hlen, List.take_length] at htk
      repeat (first | ((first | refine zd ?_ | refine zx ?_ | refine zk ?_ | refine zl ?_ | refine zr ?_); refine zq ?_) | refine zs ?_ | refine zh (by simp -implicitDefEqProofs (disch := (first | omega | (simp; done) | fail)) [if_pos, if_neg, wrap_i64, tmod_pos, tdiv_pos, Int.toNat_add, q5, hlen]; rfl) ?_ | refine zb ?_ | refine zo ?_ | refine zt ?_ | refine zf ?_)
      first | refine zY (.inr rfl) ?_ | refine zY (.inl rfl) ?_
      simp [htk]
    have hlt : j < b.length := by omega
    have hlta : j < a.length := by omega
    have q5 : (j : Int) < (b.length : Int) := by omega
    have hx3 : (a.map Iid.av)[j]? = some (Iid.av a[j]) := by simp [hlta]
    have hx4 : (b.map Iid.av)[j]? = some (Iid.av b[j]) := by simp [hlt]
    have hlt2 : (j : Int) < 100000 := by omega
    have hz : b.length - (j + 1) < b.length - j := by omega
    have hj2 : j + 1 ≤ b.length := by omega
    repeat (first | ((first | refine zd ?_ | refine zx ?_ | refine zk ?_ | refine zl ?_ | refine zr ?_); refine zq ?_) | refine zs ?_ | refine zh (by simp -implicitDefEqProofs (disch := (first | omega | (simp; done) | fail)) [if_pos, if_neg, wrap_i64, tmod_pos, tdiv_pos, Int.toNat_add, q5, hlen]; rfl) ?_ | refine zb ?_ | refine zo ?_ | refine zt ?_ | refine zf ?_)
    by_cases hab : a[j] = b[j]
    · have htk2 : a.take (j + 1) = b.take (j + 1) := by rw [List.take_succ_eq_append_getElem hlta, List.take_succ_eq_append_getElem hlt, htk, hab]
      rw [hab] at hx3
      clear hab
      generalize b[j] = k at *
      clear hlt hlta
      refine awp_draw (.q 0 (.q 1 (.q 2 (.q 3 (.q 4 (.q 5 (.q 6 (.q 7 (.q 8 (.done)))))))))) (by kernel_rfl) (by kernel_rfl) (tree_start (goesT_eq (by simp -implicitDefEqProofs (disch := (first | omega | (simp; done) | fail)) [if_pos, if_neg, wrap_i64, tmod_pos, tdiv_pos, Int.toNat_add, hx3, hx4, hua, hub, Iid.av, Iid.c, hlen, q5]; rfl) ?_))
      refine goesT_done ?_
      (try simp only [vq, if_true, reduceIte, Nat.reduceEqDiff, reduceCtorEq])
      repeat (first | ((first | refine zd ?_ | refine zx ?_ | refine zk ?_ | refine zl ?_ | refine zr ?_); refine zq ?_) | refine zs ?_ | refine zg ?_ | refine zb ?_ | refine zo ?_ | refine zt ?_ | refine zf ?_)
      exact ⟨b.length - (j + 1), hz, j + 1, rfl, hj2, htk2, st_keep' (by simp []) (by simp [])⟩
    · have hne : a ≠ b := fun e => hab (by subst e; rfl)
      have he : (!a[j].e == b[j].e || (!a[j].n == b[j].n || !a[j].o == b[j].o)) = true := by
        have := neb a[j] b[j]
        simp only [bne] at this
        rw [this]; simpa using hab
      clear hab
      generalize a[j] = k at *
      generalize b[j] = k2 at *
      clear hlt hlta
      refine awp_draw (.q 0 (.q 1 (.q 2 (.q 3 (.q 4 (.q 5 (.q 6 (.q 7 (.q 8 (.done)))))))))) (by kernel_rfl) (by kernel_rfl) (tree_start (goesT_eq (by simp -implicitDefEqProofs (disch := (first | omega | (simp; done) | fail)) [if_pos, if_neg, wrap_i64, tmod_pos, tdiv_pos, Int.toNat_add, hx3, hx4, hua, hub, Iid.av, Iid.c, hlen, q5]; rfl) ?_))
      refine goesT_done ?_
      (try simp only [vq, if_true, reduceIte, Nat.reduceEqDiff, reduceCtorEq])
      refine awp_cond_t (by simp only [Slots.ev, Slots.get]; rw [← he]; rfl) ?_
      repeat (first | ((first | refine zd ?_ | refine zx ?_ | refine zk ?_ | refine zl ?_ | refine zr ?_); refine zq ?_) | refine zs ?_ | refine zg ?_ | refine zb ?_ | refine zo ?_ | refine zt ?_ | refine zf ?_)
      first | refine zY (.inr rfl) ?_ | refine zY (.inl rfl) ?_
      simp [hne]
  · exact ⟨0, rfl, by omega, by simp, st_keep' (by simp []) (by simp [])⟩
end Go.Proofs.Ytajgeofhlgoifaa.G

/- Graphs: done in steps it is done the same, in plain words. -/
set_option linter.unusedVariables false
set_option linter.unusedSimpArgs false
set_option maxRecDepth 20000
namespace Go.Proofs.Ytajgeofhlgoifaa.G
open Go Go.Proofs.Ytajgeofhlgoifaa.V Go.Proofs.Ytajgeofhlgoifaa.I Go.Sort Go.RowKit
attribute [-simp] List.length_flatten List.map_flatten
theorem rt_un {dp : Iid → List Iid} {dn : List Iid} {x y : Iid} (h : Tar.Rt dp (dnB dn) x y) : Tar.Rt dp (dnB []) x y := by
  induction h with
  | refl => exact .refl _
  | step s _ ih => exact .step ⟨s.1, by simp [dnB]⟩ ih
theorem rt_dn {dp : Iid → List Iid} {dn : List Iid} {x y : Iid} (h : Tar.Rt dp (dnB []) x y) : (∀ z, Tar.Rt dp (dnB []) x z → Tar.Rt dp (dnB []) z y → z ∉ dn) → Tar.Rt dp (dnB dn) x y := by
  induction h with
  | refl => exact fun _ => .refl _
  | step s r ih =>
    intro h
    refine .step ⟨s.1, ?_⟩ (ih fun z h1 h2 => h z (.step s h1) h2)
    have := h _ (.one s) r
    simp [dnB, this]
theorem lead_split {dp : Iid → List Iid} (dn : List Iid) {x z : Iid} (h : Lead dp [] x z) : Lead dp dn x z ∨ ∃ w ∈ dn, w = z ∨ Lead dp [] w z := by
  induction h with
  | first h => exact .inl (.first h)
  | next _ _ h ih =>
    rename_i u y _ _
    rcases ih with ih | ⟨w, hw, rfl | ih⟩
    · by_cases hu : u ∈ dn
      · exact .inr ⟨u, hu, .inr (.first h)⟩
      · exact .inl (.next ih hu h)
    · exact .inr ⟨w, hw, .inr (.first h)⟩
    · exact .inr ⟨w, hw, .inr (.next ih (by simp) h)⟩
/-- Behind what is done, the rest can be done just when it could. -/
theorem can_dn {l : List Nod} {dn : List Iid} (hd : ∀ w ∈ dn, CanDo l [] w) (x : Iid) : CanDo l dn x ↔ CanDo l [] x ∧ x ∉ dn := by
  refine ⟨fun ⟨h1, h2, h3⟩ => ⟨⟨h1, by simp, fun z hz => .inl ?_⟩, h2⟩, fun ⟨h1, h2⟩ => can_un h1 h2⟩
  rcases lead_split dn hz with h | ⟨w, hw, rfl | h⟩
  · rcases h3 z h with h | h
    · exact h
    · exact (hd z h).1
  · exact (hd w hw).1
  · exact ((hd w hw).2.2 z h).resolve_right (by simp)
theorem steps_plain {l : List Nod} {out p : List (List Iid)} {k : Nat} (h : OrdOk l [] out) (hk : k ≤ out.length) (hp : OrdOk l (out.take k).flatten p) : p = out.drop k := by
  obtain ⟨gs, hG, ⟨grs, hL⟩, rfl⟩ := h
  have hnd : gs.Nodup := hG.ord.imp fun {a b} h e => by subst e; rw [less_lt.irr] at h; cases h
  obtain ⟨h1, _⟩ := Tar.runO_ok gs.length [] gs (Nat.le_refl _) hnd hL
  have hkl : k ≤ gs.length := by rw [← h1.length_eq]; exact hk
  obtain ⟨left, s1, s2, s3, s4⟩ := Tar.runO_drop k gs.length [] gs (Nat.le_refl _) hnd hL hkl
  obtain ⟨gs', hG', ⟨_, _⟩, rfl⟩ := hp
  generalize hout : runG l gs.length [] gs = out at *
  have hout' : Tar.runO (dpOf l) gs.length [] gs = out := hout
  rw [hout'] at h1 s2 s4
  have htk : ∀ g ∈ out.take k, g ∈ gs := fun g hg => h1.mem_iff.1 (List.mem_of_mem_take hg)
  have hdc : ∀ w ∈ (out.take k).flatten, CanDo l [] w := fun w hw => by
    obtain ⟨g, hg, hx⟩ := List.mem_flatten.1 hw
    exact (hG.mem w).1 (List.mem_flatten.2 ⟨g, htk g hg, hx⟩)
  have hdis : ∀ g ∈ left, ∀ x ∈ g, x ∉ (out.take k).flatten := fun g hg x hx hd => by
    obtain ⟨hg1, hg2⟩ := (s2 g).1 hg
    obtain ⟨g', hg', hx'⟩ := List.mem_flatten.1 hd
    have := Tar.grp_eq (keyC_ok l) (hG.grp g hg1) (hG.grp g' (htk g' hg')) (hG.srt g hg1) (hG.srt g' (htk g' hg')) hx hx'
    exact hg2 (this ▸ hg')
  have hleft : GsG l (out.take k).flatten left := by
    refine ⟨fun g hg => ?_, fun g hg => hG.srt g ((s2 g).1 hg).1, fun x => ?_, ?_, hG.ord.sublist s1⟩
    · obtain ⟨hg1, hg2⟩ := (s2 g).1 hg
      have I := hG.grp g hg1
      refine ⟨I.ne, fun x hx y hy => rt_dn (I.each x hx y hy) fun z hz1 hz2 => ?_, fun x hx y h1 h2 => I.all x hx y (rt_un h1) (rt_un h2)⟩
      exact hdis g hg z (I.all x hx z hz1 (hz2.trans (I.each y hy x hx)))
    · rw [can_dn hdc]
      constructor
      · intro hx
        obtain ⟨g, hg, hxg⟩ := List.mem_flatten.1 hx
        exact ⟨(hG.mem x).1 (List.mem_flatten.2 ⟨g, ((s2 g).1 hg).1, hxg⟩), hdis g hg x hxg⟩
      · rintro ⟨hx, hxd⟩
        obtain ⟨g, hg, hxg⟩ := List.mem_flatten.1 ((hG.mem x).2 hx)
        exact List.mem_flatten.2 ⟨g, (s2 g).2 ⟨hg, fun h => hxd (List.mem_flatten.2 ⟨g, h, hxg⟩)⟩, hxg⟩
    · obtain ⟨t, ht⟩ := s1.exists_perm_append
      have := (ht.flatten.nodup_iff).1 hG.nd
      rw [List.flatten_append, List.nodup_append] at this
      exact this.1
  have e := hG'.unique (keyC_ok l) less_lt hleft
  subst e
  rw [s4, s3]
  exact Tar.runO_congr _ (fun x => by simp) _
end Go.Proofs.Ytajgeofhlgoifaa.G

/- Graphs: done in steps it is done the same. -/
set_option linter.unusedVariables false
set_option linter.unusedSimpArgs false
set_option maxRecDepth 20000
namespace Go.Proofs.Ytajgeofhlgoifaa.G
open Go Go.Proofs.Ytajgeofhlgoifaa.V Go.Proofs.Ytajgeofhlgoifaa.I Go.Sort Go.RowKit
attribute [-simp] List.length_flatten List.map_flatten
@[simp] theorem lv_s : AV.strip ∘ lv = lv := s_comp lv_strip
theorem order_sm {l : List Nod} {d0 : List Iid} (hs : Small l d0) (hv : validB l = true) (dn : List Iid) (hd : dn.length ≤ 1000) (H : AHeap) : ACalls Try.prog 13 [.list (l.map Nod.av) .no, .list (dn.map Iid.av) .no] H fun r h' => ∃ (out : List (List Iid)) (X : AHeap), r = .list (out.map lv) .no ∧ h' = H ++ X ∧ OrdOk l dn out :=
  (order_ok l dn .no .no (by have := hs.len; omega) (by omega) hs.w H).mono fun r h' ⟨⟨X, h1⟩, _, h3⟩ => by
    obtain ⟨out, h4, h5⟩ := h3 hv
    exact ⟨out, X, h5, h1, h4⟩
theorem steps_law (l : List Nod) (k : Int) (hk : (Lit.int .i64 k).wf = true) (h : AHeap) : ACalls Try.prog 5 [.list (l.map Nod.av) .no, iv k] h fun r h' => r = .bool true ∧ h' = h := by
  have hu := nod_uni l
  have hov : ∀ h, ACalls Try.prog 11 [.list (l.map Nod.av) .no, .list [] .no] h fun r h' => r = .bool (overB l []) ∧ h' = h := fun h => over_ok l [] .no .no h
  refine acalls_of_awp Try.func5 rfl (by simp only [List.length_cons, List.length_nil]; decide) ?_
  simp only [params_cons, params_nil]
  refine awp_seq ?_
  refine zg ?_
  refine goes_done ?_
  (try simp only [vq, if_true, reduceIte, Nat.reduceEqDiff, reduceCtorEq])
  refine awp_seq ?_
  repeat (first | ((first | refine zd ?_ | refine zx ?_ | refine zk ?_ | refine zl ?_ | refine zr ?_); refine zq ?_) | refine zs ?_ | refine zg ?_ | refine zb ?_ | refine zo ?_ | refine zt ?_ | refine zf ?_)
  refine zp (callable_of Try.func10) _ (works_ok _) ?_
  rintro _ _ ⟨rfl, XW, rfl⟩
  refine ze ?_
  refine goes_done ?_
  (try simp only [vq, if_true, reduceIte, Nat.reduceEqDiff, reduceCtorEq])
  repeat (first | ((first | refine zd ?_ | refine zx ?_ | refine zk ?_ | refine zl ?_ | refine zr ?_); refine zq ?_) | refine zs ?_ | refine zg ?_ | refine zb ?_ | refine zo ?_ | refine zt ?_ | refine zf ?_)
  refine zp (callable_of Try.func11) _ (hov _) ?_
  rintro _ _ ⟨rfl, rfl⟩
  rcases Bool.eq_false_or_eq_true (overB l []) with ho | ho
  · rw [ho]
    refine ze ?_
    repeat (first | ((first | refine zd ?_ | refine zx ?_ | refine zk ?_ | refine zl ?_ | refine zr ?_); refine zq ?_) | refine zs ?_ | refine zg ?_ | refine zb ?_ | refine zo ?_ | refine zt ?_ | refine zf ?_)
    first | refine zy (.inr rfl) ?_ | refine zy (.inl rfl) ?_
    simp
  rw [ho]
  have hs := small_of ho
  have h14 := hs.len
  have hva := fun h => valid_ok l .no (by omega) h
  have hd14 := hs.dn
  refine ze ?_
  refine zp (callable_of Try.func16) _ (hva _) ?_
  rintro _ _ ⟨rfl, XV, rfl⟩
  rcases Bool.eq_false_or_eq_true (validB l) with hv | hv
  rotate_left
  · rw [hv]
    refine ze ?_
    repeat (first | ((first | refine zd ?_ | refine zx ?_ | refine zk ?_ | refine zl ?_ | refine zr ?_); refine zq ?_) | refine zs ?_ | refine zg ?_ | refine zb ?_ | refine zo ?_ | refine zt ?_ | refine zf ?_)
    first | refine zy (.inr rfl) ?_ | refine zy (.inl rfl) ?_
    simp
  rw [hv]
  by_cases hk0 : k < 0
  · refine goes_eq (by simp -implicitDefEqProofs (disch := (first | omega | (simp; done) | fail)) [if_pos, if_neg, wrap_i64, tmod_pos, tdiv_pos, Int.toNat_add, hk0]; rfl) ?_
    repeat (first | ((first | refine zd ?_ | refine zx ?_ | refine zk ?_ | refine zl ?_ | refine zr ?_); refine zq ?_) | refine zs ?_ | refine zg ?_ | refine zb ?_ | refine zo ?_ | refine zt ?_ | refine zf ?_)
    first | refine zy (.inr rfl) ?_ | refine zy (.inl rfl) ?_
    simp
  obtain ⟨n, rfl⟩ : ∃ n : Nat, k = (n : Int) := ⟨k.toNat, by omega⟩
  have hor : ∀ H, ACalls Try.prog 13 [.list (l.map Nod.av) .no, .list [] .no] H fun r h' => ∃ (out : List (List Iid)) (X : AHeap), r = .list (out.map lv) .no ∧ h' = H ++ X ∧ OrdOk l [] out := fun H => order_sm hs hv [] (by simp) H
  refine goes_eq (by simp -implicitDefEqProofs (disch := (first | omega | (simp; done) | fail)) [if_pos, if_neg, wrap_i64, tmod_pos, tdiv_pos, Int.toNat_add, hk0]; rfl) ?_
  repeat (first | ((first | refine zd ?_ | refine zx ?_ | refine zk ?_ | refine zl ?_ | refine zr ?_); refine zq ?_) | refine zs ?_ | refine zg ?_ | refine zb ?_ | refine zo ?_ | refine zt ?_ | refine zf ?_)
  refine zp (callable_of Try.func13) _ (hor _) ?_
  rintro _ _ ⟨out, XO, rfl, rfl, hO⟩
  refine ze ?_
  refine goes_done ?_
  (try simp only [vq, if_true, reduceIte, Nat.reduceEqDiff, reduceCtorEq])
  have hol := hO.len
  by_cases hkn : (out.length : Int) < (n : Int)
  · repeat (first | ((first | refine zd ?_ | refine zx ?_ | refine zk ?_ | refine zl ?_ | refine zr ?_); refine zq ?_) | refine zs ?_ | refine zh (by simp -implicitDefEqProofs (disch := (first | omega | (simp; done) | fail)) [if_pos, if_neg, wrap_i64, tmod_pos, tdiv_pos, Int.toNat_add, hkn]; rfl) ?_ | refine zb ?_ | refine zo ?_ | refine zt ?_ | refine zf ?_)
    first | refine zy (.inr rfl) ?_ | refine zy (.inl rfl) ?_
    simp
  have hnl : n ≤ out.length := by omega
  have q1 : (n : Int) ≤ (out.length : Int) := by omega
  have hfo := hO.flen
  have hfk : (out.take n).flatten.length ≤ 14 := by have := flat_take_le out n; omega
  have hfl := fun H => flatG_ok (out.take n) .no (by rw [List.length_take]; omega) (fun g hg => hO.ne g (List.mem_of_mem_take hg)) (by omega) H
  have hor2 := fun H => order_sm hs hv (out.take n).flatten (by omega) H
  have hst := fun p (hp : OrdOk l (out.take n).flatten p) => steps_plain hO hnl hp
  rw [List.map_take] at hfl
  generalize (out.take n).flatten = F at *
  have huo := lv_uni out
  repeat (first | ((first | refine zd ?_ | refine zx ?_ | refine zk ?_ | refine zl ?_ | refine zr ?_); refine zq ?_) | refine zs ?_ | refine zh (by simp -implicitDefEqProofs (disch := (first | omega | (simp; done) | fail)) [if_pos, if_neg, wrap_i64, tmod_pos, tdiv_pos, Int.toNat_add, hkn, q1, huo]; rfl) ?_ | refine zb ?_ | refine zo ?_ | refine zt ?_ | refine zf ?_)
  refine zp (callable_of Try.func22) _ (hfl _) ?_
  rintro _ _ ⟨rfl, XF, rfl⟩
  refine goes_eq (by simp -implicitDefEqProofs (disch := (first | omega | (simp; done) | fail)) [if_pos, if_neg, wrap_i64, tmod_pos, tdiv_pos, Int.toNat_add, lv]; rfl) ?_
  refine goes_done ?_
  (try simp only [vq, if_true, reduceIte, Nat.reduceEqDiff, reduceCtorEq])
  refine awp_seq ?_
  repeat (first | ((first | refine zd ?_ | refine zx ?_ | refine zk ?_ | refine zl ?_ | refine zr ?_); refine zq ?_) | refine zs ?_ | refine zg ?_ | refine zb ?_ | refine zo ?_ | refine zt ?_ | refine zf ?_)
  refine zp (callable_of Try.func13) _ (hor2 _) ?_
  rintro _ _ ⟨p, XP, rfl, rfl, hP⟩
  have hpd := hst p hP
  have hpl : p.length = out.length - n := by rw [hpd, List.length_drop]
  have hpg : ∀ i, i < p.length → p[i]? = out[n + i]? := fun i hi => by rw [hpd, List.getElem?_drop]
  have hgl : ∀ g ∈ out, g.length ≤ 14 := fun g hg => by
    have h1 : g.Nodup := flat_nd hO.nd g hg
    have := can_len h1 fun x hx => (hO.mem x).1 (List.mem_flatten.2 ⟨g, hg, hx⟩)
    omega
  clear hpd hst
  refine ze ?_
  refine goes_done ?_
  (try simp only [vq, if_true, reduceIte, Nat.reduceEqDiff, reduceCtorEq])
  have q2 : ((p.length : Int) != (out.length : Int) - (n : Int)) = false := by
    rw [hpl]; simp; omega
  repeat (first | ((first | refine zd ?_ | refine zx ?_ | refine zk ?_ | refine zl ?_ | refine zr ?_); refine zq ?_) | refine zs ?_ | refine zh (by simp -implicitDefEqProofs (disch := (first | omega | (simp; done) | fail)) [if_pos, if_neg, wrap_i64, tmod_pos, tdiv_pos, Int.toNat_add, q2]; rfl) ?_ | refine zb ?_ | refine zo ?_ | refine zt ?_ | refine zf ?_)
  generalize hXX : XW ++ (XV ++ (XO ++ (XF ++ XP))) = X0
  clear hXX
  have hup := lv_uni p
  refine awp_loop (fun z st => ∃ (i : Nat), z = p.length - i ∧ i ≤ p.length ∧ st.le ⟨Try.f5.ntmps, [(0, .list (l.map Nod.av) .no), (1, iv (n : Nat)), (5, .bool true), (6, .list (out.map lv) .no), (8, .list (p.map lv) .no), (9, iv (i : Nat))], h ++ X0⟩) p.length ?_ ?_
  rotate_left
  rintro z st ⟨i, rfl, hi, hle⟩
  · refine awp_le hle ?_
    clear hle
    by_cases h9 : i = p.length
    · subst h9
      have q : ¬ (p.length : Int) < (p.length : Int) := by omega
      repeat (first | ((first | refine zd ?_ | refine zx ?_ | refine zk ?_ | refine zl ?_ | refine zr ?_); refine zq ?_) | refine zs ?_ | refine zh (by simp -implicitDefEqProofs (disch := (first | omega | (simp; done) | fail)) [if_pos, if_neg, wrap_i64, tmod_pos, tdiv_pos, Int.toNat_add, q]; rfl) ?_ | refine zb ?_ | refine zo ?_ | refine zt ?_ | refine zf ?_)
      first | refine zy (.inr rfl) ?_ | refine zy (.inl rfl) ?_
      simp
    · have hlt : i < p.length := by omega
      have q : (i : Int) < (p.length : Int) := by omega
      have q3 : (n : Int) + (i : Int) < (out.length : Int) := by omega
      have hgi : p[i]? = some p[i] := List.getElem?_eq_getElem hlt
      have hgo := hpg i hlt
      rw [hgi] at hgo
      have hgl2 : p[i].length ≤ 14 := hgl _ (List.mem_of_getElem? hgo.symm)
      generalize p[i] = g at *
      have hx2 : (p.map lv)[i]? = some (lv g) := by simp [hgi]
      have hx3 : (out.map lv)[n + i]? = some (lv g) := by simp [← hgo]
      have hx4 : (out.map lv)[((n : Int) + (i : Int)).toNat]? = some (lv g) := by
        rw [show ((n : Int) + (i : Int)).toNat = n + i by omega]; exact hx3
      have hro := fun H => row_ok g g .no .no (by omega) H
      refine awp_seq ?_
      refine awp_seq ?_
      refine zh (by simp -implicitDefEqProofs (disch := (first | omega | (simp; done) | fail)) [if_pos, if_neg, wrap_i64, tmod_pos, tdiv_pos, Int.toNat_add, q]; rfl) ?_
      refine goes_done ?_
      (try simp only [vq, if_true, reduceIte, Nat.reduceEqDiff, reduceCtorEq])
      refine awp_cond_t rfl ?_
      refine awp_skip ?_
      simp only [vq, if_true, reduceIte, Nat.reduceEqDiff, reduceCtorEq]
      refine awp_seq ?_
      refine awp_block ?_
      refine awp_seq ?_
      refine awp_draw (.q 0 (.q 1 (.q 2 (.q 3 (.q 4 (.q 5 (.q 6 (.q 7 (.q 8 (.q 9 (.a 10 (.q 11 (.done))))))))))))) (by kernel_rfl) (by kernel_rfl) (tree_start (goesT_eq (by simp -implicitDefEqProofs (disch := (first | omega | (simp; done) | fail)) [if_pos, if_neg, wrap_i64, tmod_pos, tdiv_pos, Int.toNat_add, q, q3, hup, huo, hx2, hx3, hx4, lv]; rfl) ?_))
      refine zP (callable_of Try.func17) _ (hro _) ?_
      rintro _ _ ⟨rfl, rfl⟩
      refine zE ?_
      refine goesT_done ?_
      (try simp only [vq, if_true, reduceIte, Nat.reduceEqDiff, reduceCtorEq])
      repeat (first | ((first | refine zd ?_ | refine zx ?_ | refine zk ?_ | refine zl ?_ | refine zr ?_); refine zq ?_) | refine zs ?_ | refine zg ?_ | refine zb ?_ | refine zo ?_ | refine zt ?_ | refine zf ?_)
      exact ⟨p.length - (i + 1), by omega, i + 1, rfl, hlt, st_keep' (by simp []) (by simp [])⟩
  · exact ⟨0, rfl, by omega, st_keep' (by simp []) (by simp [])⟩
end Go.Proofs.Ytajgeofhlgoifaa.G

/- Graphs: two are in one group just where each leads to the other one, in plain words. -/
set_option linter.unusedVariables false
set_option linter.unusedSimpArgs false
set_option maxRecDepth 20000
namespace Go.Proofs.Ytajgeofhlgoifaa.G
open Go Go.Proofs.Ytajgeofhlgoifaa.V Go.Proofs.Ytajgeofhlgoifaa.I Go.Sort Go.RowKit
attribute [-simp] List.length_flatten List.map_flatten
theorem rt_lead {dp : Iid → List Iid} {x y : Iid} (h : Tar.Rt dp (dnB []) x y) : x = y ∨ Lead dp [] x y := by
  induction h with
  | refl => exact .inl rfl
  | step s _ ih =>
    rcases ih with rfl | ih
    · exact .inr (.first s.1)
    · exact .inr (lead_trans (.first s.1) ih)
theorem lead_rt {dp : Iid → List Iid} {x y : Iid} (h : Lead dp [] x y) : Tar.Rt dp (dnB []) x y := by
  induction h with
  | first h => exact .one ⟨h, by simp [dnB]⟩
  | next _ _ h ih => exact ih.trans (.one ⟨h, by simp [dnB]⟩)
theorem OrdOk.grp {l : List Nod} {dn : List Iid} {out : List (List Iid)} (h : OrdOk l dn out) : ∀ g ∈ out, Tar.IsGrp (dpOf l) (dnB dn) g ∧ g.Pairwise fun a b => keyC l a b = true := by
  obtain ⟨gs, hG, hp, _⟩ := h.perm
  exact fun g hg => ⟨hG.grp g (hp.mem_iff.1 hg), hG.srt g (hp.mem_iff.1 hg)⟩
/-- In one group: just where each leads to the other one. -/
theorem both_iff {l : List Nod} {out : List (List Iid)} (h : OrdOk l [] out) {i j : Nat} (hi : i < out.length) (hj : j < out.length) {x y : Iid} (hx : x ∈ out[i]) (hy : y ∈ out[j]) : (x = y ∨ (Lead (dpOf l) [] x y ∧ Lead (dpOf l) [] y x)) ↔ i = j := by
  obtain ⟨gi, _⟩ := h.grp _ (List.getElem_mem hi)
  constructor
  · rintro (rfl | ⟨h1, h2⟩)
    · exact flat_inj h.nd i j hi hj hx hy
    · exact flat_inj h.nd i j hi hj (gi.all x hx y (lead_rt h1) (lead_rt h2)) hy
  · rintro rfl
    rcases rt_lead (gi.each x hx y hy) with e | h1
    · exact .inl e
    · rcases rt_lead (gi.each y hy x hx) with e | h2
      · exact .inl e.symm
      · exact .inr ⟨h1, h2⟩
theorem findN_snoc (k : Iid) (l : List Nod) (x : Nod) : findN k (l ++ [x]) = if x.id = k then some x else findN k l := by
  unfold findN
  rw [List.reverse_append]
  simp only [List.reverse_cons, List.reverse_nil, List.nil_append, List.singleton_append, List.find?_cons]
  by_cases h : x.id = k <;> simp [h]
theorem sqOf_snoc (k : Iid) (l : List Nod) (x : Nod) : sqOf (l ++ [x]) k = if x.id = k then x.seq else sqOf l k := by
  unfold sqOf
  rw [findN_snoc]
  split <;> rfl
end Go.Proofs.Ytajgeofhlgoifaa.G

/- Graphs: the document's answers about sets of instances. -/
set_option linter.unusedVariables false
set_option linter.unusedSimpArgs false
set_option maxRecDepth 20000
namespace Go.Proofs.Ytajgeofhlgoifaa.G
open Go Go.Proofs.Ytajgeofhlgoifaa.V Go.Proofs.Ytajgeofhlgoifaa.I Go.Sort Go.RowKit
attribute [-simp] List.length_flatten List.map_flatten
theorem av_uni (l : List Iid) : uni 3 (l.map Iid.av) = true := uni_map fun _ => rfl
attribute [local simp] av_uni
theorem rless_ok (a b : Iid) (h : AHeap) : ACalls Try.prog 58 [Iid.av a, Iid.av b] h fun r h' => r = .bool (lessB a b) ∧ h' = h := by
  unfold Iid.av Iid.c
  refine acalls_of_awp Try.func58 rfl (by simp only [List.length_cons, List.length_nil]; decide) ?_
  simp only [params_cons, params_nil]
  refine awp_seq ?_
  refine zg ?_
  refine goes_done ?_
  (try simp only [vq, if_true, reduceIte, Nat.reduceEqDiff, reduceCtorEq])
  refine awp_hard (id := h.length) (by simp -implicitDefEqProofs; rfl) ?_
  simp -implicitDefEqProofs only [Slots.melt, AV.melt, Nat.add_left_cancel_iff, Nat.add_eq_left, Nat.left_eq_add, Nat.reduceEqDiff, reduceIte, Nat.succ_ne_self, Nat.one_ne_zero, Nat.zero_ne_one, List.set_append_right, List.set_append_left, Nat.sub_self, Nat.le_refl, Nat.add_sub_cancel_left, Nat.le_add_right, List.set_cons_zero, List.set_cons_succ]
  refine awp_hard (id := h.length + 1) (by simp -implicitDefEqProofs; rfl) ?_
  simp -implicitDefEqProofs only [Slots.melt, AV.melt, Nat.add_left_cancel_iff, Nat.add_eq_left, Nat.left_eq_add, Nat.reduceEqDiff, reduceIte, Nat.succ_ne_self, Nat.one_ne_zero, Nat.zero_ne_one, List.set_append_right, List.set_append_left, Nat.sub_self, Nat.le_refl, Nat.add_sub_cancel_left, Nat.le_add_right, List.set_cons_zero, List.set_cons_succ]
  by_cases h1 : a.e = b.e
  · have h1' : (a.e != b.e) = false := by simpa using h1
    by_cases h2 : a.o = b.o
    · have h2' : (a.o != b.o) = false := by simpa using h2
      repeat (first | ((first | refine zd ?_ | refine zx ?_ | refine zk ?_ | refine zl ?_ | refine zr ?_); refine zq ?_) | refine zs ?_ | refine zh (by simp -implicitDefEqProofs (disch := (first | omega | (simp; done) | fail)) [if_pos, if_neg, wrap_i64, tmod_pos, tdiv_pos, Int.toNat_add, h1', h2']; rfl) ?_ | refine zb ?_ | refine zo ?_ | refine zt ?_ | refine zf ?_)
      first | refine zy (.inr rfl) ?_ | refine zy (.inl rfl) ?_
      simp [lessB, h1, h2]
    · have h2' : (a.o != b.o) = true := by simpa using h2
      repeat (first | ((first | refine zd ?_ | refine zx ?_ | refine zk ?_ | refine zl ?_ | refine zr ?_); refine zq ?_) | refine zs ?_ | refine zh (by simp -implicitDefEqProofs (disch := (first | omega | (simp; done) | fail)) [if_pos, if_neg, wrap_i64, tmod_pos, tdiv_pos, Int.toNat_add, h1', h2']; rfl) ?_ | refine zb ?_ | refine zo ?_ | refine zt ?_ | refine zf ?_)
      first | refine zy (.inr rfl) ?_ | refine zy (.inl rfl) ?_
      simp [lessB, h1, h2]
  · have h1' : (a.e != b.e) = true := by simpa using h1
    repeat (first | ((first | refine zd ?_ | refine zx ?_ | refine zk ?_ | refine zl ?_ | refine zr ?_); refine zq ?_) | refine zs ?_ | refine zh (by simp -implicitDefEqProofs (disch := (first | omega | (simp; done) | fail)) [if_pos, if_neg, wrap_i64, tmod_pos, tdiv_pos, Int.toNat_add, h1']; rfl) ?_ | refine zb ?_ | refine zo ?_ | refine zt ?_ | refine zf ?_)
    first | refine zy (.inr rfl) ?_ | refine zy (.inl rfl) ?_
    simp [lessB, h1]
theorem rhas_ok (l : List Iid) (x : Iid) (t : Tok) (hl : l.length ≤ 100000) (h : AHeap) : ACalls Try.prog 37 [.list (l.map Iid.av) t, Iid.av x] h fun r h' => r = .bool (l.contains x) ∧ h' = h := by
  have hu : uni 3 (l.map Iid.av) = true := uni_map fun _ => rfl
  unfold Iid.av
  rw [show (fun x => AV.agg (Iid.c x)) = Iid.av from rfl]
  unfold Iid.c
  refine acalls_of_awp Try.func37 rfl (by simp only [List.length_cons, List.length_nil]; decide) ?_
  simp only [params_cons, params_nil]
  refine awp_seq ?_
  refine zg ?_
  refine goes_done ?_
  (try simp only [vq, if_true, reduceIte, Nat.reduceEqDiff, reduceCtorEq])
  refine awp_hard (id := h.length) (by simp -implicitDefEqProofs; rfl) ?_
  simp -implicitDefEqProofs only [Slots.melt, AV.melt, Nat.add_left_cancel_iff, Nat.add_eq_left, Nat.left_eq_add, Nat.reduceEqDiff, reduceIte, Nat.succ_ne_self, Nat.one_ne_zero, Nat.zero_ne_one, List.set_append_right, List.set_append_left, Nat.sub_self, Nat.le_refl, Nat.add_sub_cancel_left, Nat.le_add_right, List.set_cons_zero, List.set_cons_succ]
  repeat (first | ((first | refine zd ?_ | refine zx ?_ | refine zk ?_ | refine zl ?_ | refine zr ?_); refine zq ?_) | refine zs ?_ | refine zg ?_ | refine zb ?_ | refine zo ?_ | refine zt ?_ | refine zf ?_)
  refine awp_loop (fun z st => ∃ (j : Nat), z = l.length - j ∧ j ≤ l.length ∧ (∀ y ∈ l.take j, y ≠ x) ∧ st.le ⟨Try.f37.ntmps, [(3, .ref [iv x.e, iv x.n, iv x.o] 0), (0, .list (l.map Iid.av) t), (5, iv (j : Nat))], h ++ [.dead]⟩) l.length ?_ ?_
  rotate_left
  rintro z st ⟨j, rfl, hj, hno, hle⟩
  · refine awp_le hle ?_
    clear hle
    by_cases h10 : j = l.length
    · subst h10
      have q5 : ¬ (l.length : Int) < (l.length : Int) := by omega
      rw [List.take_length] at hno
      have hc : l.contains x = false := by simpa using fun hx => hno x hx rfl
      repeat (first | ((first | refine zd ?_ | refine zx ?_ | refine zk ?_ | refine zl ?_ | refine zr ?_); refine zq ?_) | refine zs ?_ | refine zh (by simp -implicitDefEqProofs (disch := (first | omega | (simp; done) | fail)) [if_pos, if_neg, wrap_i64, tmod_pos, tdiv_pos, Int.toNat_add, q5]; rfl) ?_ | refine zb ?_ | refine zo ?_ | refine zt ?_ | refine zf ?_)
      first | refine zy (.inr rfl) ?_ | refine zy (.inl rfl) ?_
      rw [hc]
      simp
    have hlt : j < l.length := by omega
    have q5 : (j : Int) < (l.length : Int) := by omega
    have hx3 : (l.map Iid.av)[j]? = some (Iid.av l[j]) := by simp [hlt]
    have htk2 : l.take (j + 1) = l.take j ++ [l[j]] := List.take_succ_eq_append_getElem hlt
    have hmem : l[j] ∈ l := List.getElem_mem hlt
    generalize l[j] = k at *
    have hlt2 : (j : Int) < 100000 := by omega
    clear hlt
    repeat (first | ((first | refine zd ?_ | refine zx ?_ | refine zk ?_ | refine zl ?_ | refine zr ?_); refine zq ?_) | refine zs ?_ | refine zh (by simp -implicitDefEqProofs (disch := (first | omega | (simp; done) | fail)) [if_pos, if_neg, wrap_i64, tmod_pos, tdiv_pos, Int.toNat_add, q5]; rfl) ?_ | refine zb ?_ | refine zo ?_ | refine zt ?_ | refine zf ?_)
    by_cases hk : k = x
    · subst hk
      have hc : l.contains k = true := by simpa using hmem
      refine awp_draw (.q 0 (.q 1 (.q 2 (.q 3 (.q 4 (.q 5 (.done))))))) (by kernel_rfl) (by kernel_rfl) (tree_start (goesT_eq (by simp -implicitDefEqProofs (disch := (first | omega | (simp; done) | fail)) [if_pos, if_neg, wrap_i64, tmod_pos, tdiv_pos, Int.toNat_add, hx3, hu, Iid.av, Iid.c]; rfl) ?_))
      refine goesT_done ?_
      (try simp only [vq, if_true, reduceIte, Nat.reduceEqDiff, reduceCtorEq])
      repeat (first | ((first | refine zd ?_ | refine zx ?_ | refine zk ?_ | refine zl ?_ | refine zr ?_); refine zq ?_) | refine zs ?_ | refine zg ?_ | refine zb ?_ | refine zo ?_ | refine zt ?_ | refine zf ?_)
      first | refine zy (.inr rfl) ?_ | refine zy (.inl rfl) ?_
      rw [hc]
      simp
    · have he : (k.e == x.e && (k.n == x.n && k.o == x.o)) = false := by rw [eqb]; simpa using hk
      refine awp_draw (.q 0 (.q 1 (.q 2 (.q 3 (.q 4 (.q 5 (.done))))))) (by kernel_rfl) (by kernel_rfl) (tree_start (goesT_eq (by simp -implicitDefEqProofs (disch := (first | omega | (simp; done) | fail)) [if_pos, if_neg, wrap_i64, tmod_pos, tdiv_pos, Int.toNat_add, hx3, hu, Iid.av, Iid.c]; rfl) ?_))
      refine goesT_done ?_
      (try simp only [vq, if_true, reduceIte, Nat.reduceEqDiff, reduceCtorEq])
      refine awp_cond_f (by simp [he]) ?_
      repeat (first | ((first | refine zd ?_ | refine zx ?_ | refine zk ?_ | refine zl ?_ | refine zr ?_); refine zq ?_) | refine zs ?_ | refine zg ?_ | refine zb ?_ | refine zo ?_ | refine zt ?_ | refine zf ?_)
      refine ⟨l.length - (j + 1), by omega, j + 1, rfl, by omega, fun y hy => ?_, st_keep' (by simp []) (by simp [])⟩
      rw [htk2] at hy
      rcases List.mem_append.1 hy with hy | hy
      · exact hno y hy
      · simp at hy; rw [hy]; exact hk
  · exact ⟨0, rfl, by omega, by simp, st_keep' (by simp []) (by simp [])⟩
/-- Ahead of the first that comes later. -/
def insR : List Iid → Iid → List Iid
  | [], x => [x]
  | y :: l, x => if lessB x y then x :: y :: l else y :: insR l x
theorem insR_put (l : List Iid) (x : Iid) (h : x ∉ l) : insR l x = putS l x := by
  induction l with
  | nil => rfl
  | cons y l ih =>
    have h1 : ¬ x = y := fun e => h (by rw [e]; simp)
    have h2 : x ∉ l := fun e => h (by simp [e])
    unfold insR putS
    rw [if_neg h1, ih h2]
theorem putS_in {l : List Iid} {x : Iid} (hr : Ris l) (h : x ∈ l) : putS l x = l := by
  induction l with
  | nil => cases h
  | cons y l ih =>
    obtain ⟨h1, h2⟩ := List.pairwise_cons.1 hr
    unfold putS
    split
    · rfl
    · rename_i hne
      have hx : x ∈ l := by
        rcases List.mem_cons.1 h with e | e
        · exact absurd e hne
        · exact e
      have h3 := h1 x hx
      have h4 : ¬ lessB x y = true := by simp [lessB] at h3 ⊢; omega
      rw [if_neg h4, ih h2 hx]
theorem insR_at {l : List Iid} {x : Iid} : ∀ {j : Nat}, j ≤ l.length → (∀ y ∈ l.take j, lessB x y = false) → insR l x = l.take j ++ insR (l.drop j) x := by
  induction l with
  | nil => intro j hj _; simp
  | cons y l ih =>
    intro j hj hno
    cases j with
    | zero => simp
    | succ j =>
      have h1 : lessB x y = false := hno y (by simp)
      rw [insR, if_neg (by simp [h1]), ih (by simpa using hj) fun z hz => hno z (by simp [hz])]
      simp
set_option maxHeartbeats 2000000 in
theorem rput_ok (l : List Iid) (x : Iid) (t : Tok) (hl : l.length ≤ 100000) (hr : Ris l) (h : AHeap) : ACalls Try.prog 64 [.list (l.map Iid.av) t, Iid.av x] h fun r h' => r = lv (putS l x) ∧ h' = h := by
  have hu : uni 3 (l.map Iid.av) = true := uni_map fun _ => rfl
  have hhas := fun h => rhas_ok l x .no hl h
  have hless := fun y h => rless_ok x y h
  unfold Iid.av at hhas hless ⊢
  rw [show (fun x => AV.agg (Iid.c x)) = Iid.av from rfl] at hhas ⊢
  unfold Iid.c at hhas hless ⊢
  refine acalls_of_awp Try.func64 rfl (by simp only [List.length_cons, List.length_nil]; decide) ?_
  simp only [params_cons, params_nil]
  refine awp_seq ?_
  refine zg ?_
  refine goes_done ?_
  (try simp only [vq, if_true, reduceIte, Nat.reduceEqDiff, reduceCtorEq])
  refine awp_hard (id := h.length) (by simp -implicitDefEqProofs; rfl) ?_
  simp -implicitDefEqProofs only [Slots.melt, AV.melt, Nat.add_left_cancel_iff, Nat.add_eq_left, Nat.left_eq_add, Nat.reduceEqDiff, reduceIte, Nat.succ_ne_self, Nat.one_ne_zero, Nat.zero_ne_one, List.set_append_right, List.set_append_left, Nat.sub_self, Nat.le_refl, Nat.add_sub_cancel_left, Nat.le_add_right, List.set_cons_zero, List.set_cons_succ]
  repeat (first | ((first | refine zd ?_ | refine zx ?_ | refine zk ?_ | refine zl ?_ | refine zr ?_); refine zq ?_) | refine zs ?_ | refine zg ?_ | refine zb ?_ | refine zo ?_ | refine zt ?_ | refine zf ?_)
  refine zp (callable_of Try.func37) _ (hhas _) ?_
  rintro _ _ ⟨rfl, rfl⟩
  by_cases hin : x ∈ l
  · have hc : l.contains x = true := by simpa using hin
    rw [hc, putS_in hr hin]
    refine ze ?_
    repeat (first | ((first | refine zd ?_ | refine zx ?_ | refine zk ?_ | refine zl ?_ | refine zr ?_); refine zq ?_) | refine zs ?_ | refine zg ?_ | refine zb ?_ | refine zo ?_ | refine zt ?_ | refine zf ?_)
    first | refine zy (.inr rfl) ?_ | refine zy (.inl rfl) ?_
    simp [lv]
  have hc : l.contains x = false := by simpa using hin
  rw [hc, ← insR_put l x hin]
  refine ze ?_
  repeat (first | ((first | refine zd ?_ | refine zx ?_ | refine zk ?_ | refine zl ?_ | refine zr ?_); refine zq ?_) | refine zs ?_ | refine zg ?_ | refine zb ?_ | refine zo ?_ | refine zt ?_ | refine zf ?_)
  refine awp_loop (fun z st => ∃ (j : Nat) (done : Bool) (acc : List Iid) (tok : Tok) (X : AHeap), z = l.length - j ∧ j ≤ l.length ∧ acc.length ≤ j + done.toNat ∧ acc ++ (if done then l.drop j else insR (l.drop j) x) = insR l x ∧ TokAt h.length 1 X 25 3 tok ∧ st.le ⟨Try.f64.ntmps, [(3, .ref [iv x.e, iv x.n, iv x.o] 0), (0, .list (l.map Iid.av) t), (5, .list (acc.map Iid.av) tok), (6, .bool done), (7, iv (j : Nat))], h ++ (.dead :: X)⟩) l.length ?_ ?_
  rotate_left
  rintro z st ⟨j, done, acc, tok, X, rfl, hj, hal, hg, ht, hle⟩
  · refine awp_le hle ?_
    clear hle
    have hdn : done.toNat ≤ 1 := by cases done <;> decide
    obtain ⟨q6, q7, q8, q9⟩ := nbig (n := acc.length) (by omega)
    by_cases h10 : j = l.length
    · subst h10
      have q5 : ¬ (l.length : Int) < (l.length : Int) := by omega
      rw [List.drop_length] at hg
      cases done with
      | true =>
        simp only [if_true, List.append_nil] at hg
        repeat (first | ((first | refine zd ?_ | refine zx ?_ | refine zk ?_ | refine zl ?_ | refine zr ?_); refine zq ?_) | refine zs ?_ | refine zh (by simp -implicitDefEqProofs (disch := (first | omega | (simp; done) | fail)) [if_pos, if_neg, wrap_i64, tmod_pos, tdiv_pos, Int.toNat_add, q5]; rfl) ?_ | refine zb ?_ | refine zo ?_ | refine zt ?_ | refine zf ?_)
        first | refine zy (.inr rfl) ?_ | refine zy (.inl rfl) ?_
        simp [hg, lv]
      | false =>
        simp only [Bool.false_eq_true, if_false, insR] at hg
        rcases ht with rfl | ⟨i, rfl, hi⟩
        · repeat (first | ((first | refine zd ?_ | refine zx ?_ | refine zk ?_ | refine zl ?_ | refine zr ?_); refine zq ?_) | refine zs ?_ | refine zh (by simp -implicitDefEqProofs (disch := (first | omega | (simp; done) | fail)) [if_pos, if_neg, wrap_i64, tmod_pos, tdiv_pos, Int.toNat_add, q5, q6, q7]; rfl) ?_ | refine zb ?_ | refine zo ?_ | refine zt ?_ | refine zf ?_)
          first | refine zy (.inr rfl) ?_ | refine zy (.inl rfl) ?_
          simp [← hg, lv, Iid.av, Iid.c]
        · repeat (first | ((first | refine zd ?_ | refine zx ?_ | refine zk ?_ | refine zl ?_ | refine zr ?_); refine zq ?_) | refine zs ?_ | refine zh (by simp -implicitDefEqProofs (disch := (first | omega | (simp; done) | fail)) [if_pos, if_neg, wrap_i64, tmod_pos, tdiv_pos, Int.toNat_add, q5, hi, q6, q7]; rfl) ?_ | refine zb ?_ | refine zo ?_ | refine zt ?_ | refine zf ?_)
          first | refine zy (.inr rfl) ?_ | refine zy (.inl rfl) ?_
          simp [← hg, lv, Iid.av, Iid.c]
    have hlt : j < l.length := by omega
    have q5 : (j : Int) < (l.length : Int) := by omega
    have hx3 : (l.map Iid.av)[j]? = some (Iid.av l[j]) := by simp [hlt]
    have hd : l.drop j = l[j] :: l.drop (j + 1) := by rw [List.drop_eq_getElem_cons hlt]
    rw [hd] at hg
    have hlt2 : (j : Int) < 100000 := by omega
    have hz : l.length - (j + 1) < l.length - j := by omega
    have hj2 : j + 1 ≤ l.length := by omega
    have hal2 : (acc ++ [l[j]]).length ≤ j + 1 + done.toNat := by simp; omega
    have hal3 : done = false → (acc ++ [x, l[j]]).length ≤ j + 1 + 1 := fun e => by subst e; simp at hal ⊢; omega
    generalize l[j] = k at *
    clear hlt hd hal
    repeat (first | ((first | refine zd ?_ | refine zx ?_ | refine zk ?_ | refine zl ?_ | refine zr ?_); refine zq ?_) | refine zs ?_ | refine zh (by simp -implicitDefEqProofs (disch := (first | omega | (simp; done) | fail)) [if_pos, if_neg, wrap_i64, tmod_pos, tdiv_pos, Int.toNat_add, q5]; rfl) ?_ | refine zb ?_ | refine zo ?_ | refine zt ?_ | refine zf ?_)
    cases done with
    | true =>
      simp only [if_true] at hg
      rcases ht with rfl | ⟨i, rfl, hi⟩
      · refine awp_draw (.q 0 (.q 1 (.q 2 (.q 3 (.q 4 (.q 5 (.q 6 (.q 7 (.a 8 (.q 9 (.done))))))))))) (by kernel_rfl) (by kernel_rfl) (tree_start (goesT_eq (by simp -implicitDefEqProofs (disch := (first | omega | (simp; done) | fail)) [if_pos, if_neg, wrap_i64, tmod_pos, tdiv_pos, Int.toNat_add]; rfl) ?_))
        refine goesT_done ?_
        (try simp only [vq, if_true, reduceIte, Nat.reduceEqDiff, reduceCtorEq])
        repeat (first | ((first | refine zd ?_ | refine zx ?_ | refine zk ?_ | refine zl ?_ | refine zr ?_); refine zq ?_) | refine zs ?_ | refine zh (by simp -implicitDefEqProofs (disch := (first | omega | (simp; done) | fail)) [if_pos, if_neg, wrap_i64, tmod_pos, tdiv_pos, Int.toNat_add, hx3, Iid.av, Iid.c, q5, q6, q7]; rfl) ?_ | refine zb ?_ | refine zo ?_ | refine zt ?_ | refine zf ?_)
        exact ⟨l.length - (j + 1), hz, j + 1, true, acc ++ [k], .own (h.length + (X.length + 1)), X ++ [.tail 25 3], rfl, hj2, hal2, by simpa using hg, .new (by simp), st_keep' (by simp [Iid.av, Iid.c]) (by simp [Iid.av, Iid.c])⟩
      · refine awp_draw (.q 0 (.q 1 (.q 2 (.q 3 (.q 4 (.q 5 (.q 6 (.q 7 (.a 8 (.q 9 (.done))))))))))) (by kernel_rfl) (by kernel_rfl) (tree_start (goesT_eq (by simp -implicitDefEqProofs (disch := (first | omega | (simp; done) | fail)) [if_pos, if_neg, wrap_i64, tmod_pos, tdiv_pos, Int.toNat_add]; rfl) ?_))
        refine goesT_done ?_
        (try simp only [vq, if_true, reduceIte, Nat.reduceEqDiff, reduceCtorEq])
        repeat (first | ((first | refine zd ?_ | refine zx ?_ | refine zk ?_ | refine zl ?_ | refine zr ?_); refine zq ?_) | refine zs ?_ | refine zh (by simp -implicitDefEqProofs (disch := (first | omega | (simp; done) | fail)) [if_pos, if_neg, wrap_i64, tmod_pos, tdiv_pos, Int.toNat_add, hx3, Iid.av, Iid.c, q5, q6, q7, hi]; rfl) ?_ | refine zb ?_ | refine zo ?_ | refine zt ?_ | refine zf ?_)
        exact ⟨l.length - (j + 1), hz, j + 1, true, acc ++ [k], .own (h.length + (X.length + 1)), X.set i .dead ++ [.tail 25 3], rfl, hj2, hal2, by simpa using hg, .new (by simp), st_keep' (by simp [Iid.av, Iid.c]) (by simp [Iid.av, Iid.c])⟩
    | false =>
      have hlk := fun h => hless k h
      simp only [Bool.false_eq_true, if_false, insR] at hg
      refine awp_draw (.q 0 (.q 1 (.q 2 (.q 3 (.q 4 (.q 5 (.q 6 (.q 7 (.a 8 (.q 9 (.done))))))))))) (by kernel_rfl) (by kernel_rfl) (tree_start (goesT_eq (by simp -implicitDefEqProofs (disch := (first | omega | (simp; done) | fail)) [if_pos, if_neg, wrap_i64, tmod_pos, tdiv_pos, Int.toNat_add, hx3, Iid.av, Iid.c, q5]; rfl) ?_))
      refine zP (callable_of Try.func58) _ (hlk _) ?_
      rintro _ _ ⟨rfl, rfl⟩
      cases hb : lessB x k with
      | true =>
        rw [hb] at hg
        rcases ht with rfl | ⟨i, rfl, hi⟩
        · refine zE ?_
          refine goesT_done ?_
          (try simp only [vq, if_true, reduceIte, Nat.reduceEqDiff, reduceCtorEq])
          repeat (first | ((first | refine zd ?_ | refine zx ?_ | refine zk ?_ | refine zl ?_ | refine zr ?_); refine zq ?_) | refine zs ?_ | refine zh (by simp -implicitDefEqProofs (disch := (first | omega | (simp; done) | fail)) [if_pos, if_neg, wrap_i64, tmod_pos, tdiv_pos, Int.toNat_add, hx3, Iid.av, Iid.c, q5, q6, q7, q8, q9]; rfl) ?_ | refine zb ?_ | refine zo ?_ | refine zt ?_ | refine zf ?_)
          exact ⟨l.length - (j + 1), hz, j + 1, true, acc ++ [x, k], .own (h.length + (X.length + 1 + 1)), X ++ [.dead] ++ [.tail 25 3], rfl, hj2, hal3 rfl, by simpa using hg, .new (by simp), st_keep' (by simp [Iid.av, Iid.c]) (by simp [Iid.av, Iid.c])⟩
        · refine zE ?_
          refine goesT_done ?_
          (try simp only [vq, if_true, reduceIte, Nat.reduceEqDiff, reduceCtorEq])
          repeat (first | ((first | refine zd ?_ | refine zx ?_ | refine zk ?_ | refine zl ?_ | refine zr ?_); refine zq ?_) | refine zs ?_ | refine zh (by simp -implicitDefEqProofs (disch := (first | omega | (simp; done) | fail)) [if_pos, if_neg, wrap_i64, tmod_pos, tdiv_pos, Int.toNat_add, hx3, Iid.av, Iid.c, q5, q6, q7, q8, q9, hi]; rfl) ?_ | refine zb ?_ | refine zo ?_ | refine zt ?_ | refine zf ?_)
          exact ⟨l.length - (j + 1), hz, j + 1, true, acc ++ [x, k], .own (h.length + (X.length + 1 + 1)), X.set i .dead ++ [.dead] ++ [.tail 25 3], rfl, hj2, hal3 rfl, by simpa using hg, .new (by simp), st_keep' (by simp [Iid.av, Iid.c]) (by simp [Iid.av, Iid.c])⟩
      | false =>
        rw [hb] at hg
        rcases ht with rfl | ⟨i, rfl, hi⟩
        · refine zE ?_
          refine goesT_done ?_
          (try simp only [vq, if_true, reduceIte, Nat.reduceEqDiff, reduceCtorEq])
          repeat (first | ((first | refine zd ?_ | refine zx ?_ | refine zk ?_ | refine zl ?_ | refine zr ?_); refine zq ?_) | refine zs ?_ | refine zh (by simp -implicitDefEqProofs (disch := (first | omega | (simp; done) | fail)) [if_pos, if_neg, wrap_i64, tmod_pos, tdiv_pos, Int.toNat_add, hx3, Iid.av, Iid.c, q5, q6, q7]; rfl) ?_ | refine zb ?_ | refine zo ?_ | refine zt ?_ | refine zf ?_)
          exact ⟨l.length - (j + 1), hz, j + 1, false, acc ++ [k], .own (h.length + (X.length + 1)), X ++ [.tail 25 3], rfl, hj2, hal2, by simpa using hg, .new (by simp), st_keep' (by simp [Iid.av, Iid.c]) (by simp [Iid.av, Iid.c])⟩
        · refine zE ?_
          refine goesT_done ?_
          (try simp only [vq, if_true, reduceIte, Nat.reduceEqDiff, reduceCtorEq])
          repeat (first | ((first | refine zd ?_ | refine zx ?_ | refine zk ?_ | refine zl ?_ | refine zr ?_); refine zq ?_) | refine zs ?_ | refine zh (by simp -implicitDefEqProofs (disch := (first | omega | (simp; done) | fail)) [if_pos, if_neg, wrap_i64, tmod_pos, tdiv_pos, Int.toNat_add, hx3, Iid.av, Iid.c, q5, q6, q7, hi]; rfl) ?_ | refine zb ?_ | refine zo ?_ | refine zt ?_ | refine zf ?_)
          exact ⟨l.length - (j + 1), hz, j + 1, false, acc ++ [k], .own (h.length + (X.length + 1)), X.set i .dead ++ [.tail 25 3], rfl, hj2, hal2, by simpa using hg, .new (by simp), st_keep' (by simp [Iid.av, Iid.c]) (by simp [Iid.av, Iid.c])⟩
  · exact ⟨0, false, [], .full, [], rfl, by omega, by simp, by simp, .full, st_keep' (by simp []) (by simp [])⟩
theorem clean_snoc (l : List Iid) (k : Iid) : clean (l ++ [k]) = putS (clean l) k := by simp [clean]
theorem rclean_ok (l : List Iid) (t : Tok) (hl : l.length ≤ 100000) (h : AHeap) : ACalls Try.prog 44 [.list (l.map Iid.av) t] h fun r h' => r = lv (clean l) ∧ h' = h := by
  refine acalls_of_awp Try.func44 rfl (by simp only [List.length_cons, List.length_nil]; decide) ?_
  simp only [params_cons, params_nil]
  repeat (first | ((first | refine zd ?_ | refine zx ?_ | refine zk ?_ | refine zl ?_ | refine zr ?_); refine zq ?_) | refine zs ?_ | refine zg ?_ | refine zb ?_ | refine zo ?_ | refine zt ?_ | refine zf ?_)
  refine awp_loop (fun z st => ∃ (j : Nat) (tok : Tok), z = l.length - j ∧ j ≤ l.length ∧ st.le ⟨Try.f44.ntmps, [(0, .list (l.map Iid.av) t), (3, .list ((clean (l.take j)).map Iid.av) tok), (4, iv (j : Nat))], h⟩) l.length ?_ ?_
  rotate_left
  rintro z st ⟨j, tok, rfl, hj, hle⟩
  · refine awp_le hle ?_
    clear hle
    by_cases h10 : j = l.length
    · subst h10
      have q5 : ¬ (l.length : Int) < (l.length : Int) := by omega
      rw [List.take_length]
      repeat (first | ((first | refine zd ?_ | refine zx ?_ | refine zk ?_ | refine zl ?_ | refine zr ?_); refine zq ?_) | refine zs ?_ | refine zh (by simp -implicitDefEqProofs (disch := (first | omega | (simp; done) | fail)) [if_pos, if_neg, wrap_i64, tmod_pos, tdiv_pos, Int.toNat_add, q5]; rfl) ?_ | refine zb ?_ | refine zo ?_ | refine zt ?_ | refine zf ?_)
      first | refine zY (.inr rfl) ?_ | refine zY (.inl rfl) ?_
      simp [lv]
    have hlt : j < l.length := by omega
    have q5 : (j : Int) < (l.length : Int) := by omega
    have hx3 : (l.map Iid.av)[j]? = some (Iid.av l[j]) := by simp [hlt]
    have htk2 : l.take (j + 1) = l.take j ++ [l[j]] := List.take_succ_eq_append_getElem hlt
    have hlt2 : (j : Int) < 100000 := by omega
    have hcl : (clean (l.take j)).length ≤ 100000 := Nat.le_trans (clean_len _) (by simp; omega)
    have hr := clean_ris (l.take j)
    have hs := clean_snoc (l.take j) l[j]
    rw [← htk2] at hs
    have hz : l.length - (j + 1) < l.length - j := by omega
    have hj2 : j + 1 ≤ l.length := by omega
    generalize l[j] = k at *
    clear hlt htk2
    generalize clean (l.take j) = u at *
    have hp := fun h => rput_ok u k .no hcl hr h
    unfold Iid.av at hp
    rw [show (fun x => AV.agg (Iid.c x)) = Iid.av from rfl] at hp
    unfold Iid.c at hp
    repeat (first | ((first | refine zd ?_ | refine zx ?_ | refine zk ?_ | refine zl ?_ | refine zr ?_); refine zq ?_) | refine zs ?_ | refine zh (by simp -implicitDefEqProofs (disch := (first | omega | (simp; done) | fail)) [if_pos, if_neg, wrap_i64, tmod_pos, tdiv_pos, Int.toNat_add, q5, hx3, Iid.av, Iid.c]; rfl) ?_ | refine zb ?_ | refine zo ?_ | refine zt ?_ | refine zf ?_)
    refine zp (callable_of Try.func64) _ (hp _) ?_
    rintro _ _ ⟨rfl, rfl⟩
    rw [← hs]
    refine goes_eq (by simp -implicitDefEqProofs (disch := (first | omega | (simp; done) | fail)) [if_pos, if_neg, wrap_i64, tmod_pos, tdiv_pos, Int.toNat_add, lv]; rfl) ?_
    repeat (first | ((first | refine zd ?_ | refine zx ?_ | refine zk ?_ | refine zl ?_ | refine zr ?_); refine zq ?_) | refine zs ?_ | refine zg ?_ | refine zb ?_ | refine zo ?_ | refine zt ?_ | refine zf ?_)
    exact ⟨l.length - (j + 1), hz, j + 1, .no, rfl, hj2, st_keep' (by simp []) (by simp [])⟩
  · exact ⟨0, .full, rfl, by omega, by rw [List.take_zero]; exact st_keep' (by simp [clean]) (by simp [clean])⟩
theorem nbig2 {n : Nat} (h : n ≤ 100001) : n * 24 ≤ 140737488355328 ∧ n ≤ 140737488355328 := by omega
theorem av_onesL (l : List Iid) : onesL (l.map Iid.av) = true := by
  induction l with
  | nil => rfl
  | cons a l ih => simp [onesL, ih, Iid.av, Iid.c]
theorem sub_len (a b : List Iid) : (sub a b).length ≤ a.length := List.length_filter_le _ _
theorem sub_snoc (a b : List Iid) (k : Iid) : sub (a ++ [k]) b = sub a b ++ if b.contains k then [] else [k] := by
  unfold sub
  rw [List.filter_append]
  congr 1
  by_cases hm : k ∈ b <;> simp [List.filter_cons, hm]
set_option maxHeartbeats 1000000 in
theorem rless2_ok (a b : List Iid) (t u : Tok) (ha : a.length ≤ 10000) (hb : b.length ≤ 10000) (h : AHeap) : ACalls Try.prog 59 [.list (a.map Iid.av) t, .list (b.map Iid.av) u] h fun r h' => r = lv (clean (sub a b)) ∧ h' = h := by
  refine acalls_of_awp Try.func59 rfl (by simp only [List.length_cons, List.length_nil]; decide) ?_
  simp only [params_cons, params_nil]
  repeat (first | ((first | refine zd ?_ | refine zx ?_ | refine zk ?_ | refine zl ?_ | refine zr ?_); refine zq ?_) | refine zs ?_ | refine zg ?_ | refine zb ?_ | refine zo ?_ | refine zt ?_ | refine zf ?_)
  refine awp_loop (fun z st => ∃ (j : Nat) (tok : Tok) (X : AHeap), z = a.length - j ∧ j ≤ a.length ∧ TokIn h.length X 25 3 tok ∧ st.le ⟨Try.f59.ntmps, [(0, .list (a.map Iid.av) t), (1, .list (b.map Iid.av) u), (5, .list ((sub (a.take j) b).map Iid.av) tok), (6, iv (j : Nat))], h ++ X⟩) a.length ?_ ?_
  rotate_left
  rintro z st ⟨j, tok, X, rfl, hj, ht, hle⟩
  · refine awp_le hle ?_
    clear hle
    by_cases h10 : j = a.length
    · subst h10
      have q5 : ¬ (a.length : Int) < (a.length : Int) := by omega
      rw [List.take_length]
      have hs := sub_len a b
      repeat (first | ((first | refine zd ?_ | refine zx ?_ | refine zk ?_ | refine zl ?_ | refine zr ?_); refine zq ?_) | refine zs ?_ | refine zh (by simp -implicitDefEqProofs (disch := (first | omega | (simp; done) | fail)) [if_pos, if_neg, wrap_i64, tmod_pos, tdiv_pos, Int.toNat_add, q5]; rfl) ?_ | refine zb ?_ | refine zo ?_ | refine zt ?_ | refine zf ?_)
      refine zp (callable_of Try.func44) _ (rclean_ok (sub a b) .no (by omega) _) ?_
      rintro _ _ ⟨rfl, rfl⟩
      refine goes_eq (by simp -implicitDefEqProofs (disch := (first | omega | (simp; done) | fail)) [if_pos, if_neg, wrap_i64, tmod_pos, tdiv_pos, Int.toNat_add, lv]; rfl) ?_
      repeat (first | ((first | refine zd ?_ | refine zx ?_ | refine zk ?_ | refine zl ?_ | refine zr ?_); refine zq ?_) | refine zs ?_ | refine zg ?_ | refine zb ?_ | refine zo ?_ | refine zt ?_ | refine zf ?_)
      first | refine zy (.inr rfl) ?_ | refine zy (.inl rfl) ?_
      simp [lv]
    have hlt : j < a.length := by omega
    have q5 : (j : Int) < (a.length : Int) := by omega
    have hx3 : (a.map Iid.av)[j]? = some (Iid.av a[j]) := by simp [hlt]
    have htk2 : a.take (j + 1) = a.take j ++ [a[j]] := List.take_succ_eq_append_getElem hlt
    have hlt2 : (j : Int) < 100000 := by omega
    have hs := sub_snoc (a.take j) b a[j]
    rw [← htk2] at hs
    have hsl : (sub (a.take j) b).length ≤ 100001 := Nat.le_trans (sub_len _ _) (by simp; omega)
    obtain ⟨q6, q7, -, -⟩ := nbig hsl
    have hz : a.length - (j + 1) < a.length - j := by omega
    have hj2 : j + 1 ≤ a.length := by omega
    generalize a[j] = k at *
    clear hlt htk2 hsl
    have hp := fun h => rhas_ok b k .no (by omega) h
    unfold Iid.av at hp
    rw [show (fun x => AV.agg (Iid.c x)) = Iid.av from rfl] at hp
    unfold Iid.c at hp
    repeat (first | ((first | refine zd ?_ | refine zx ?_ | refine zk ?_ | refine zl ?_ | refine zr ?_); refine zq ?_) | refine zs ?_ | refine zh (by simp -implicitDefEqProofs (disch := (first | omega | (simp; done) | fail)) [if_pos, if_neg, wrap_i64, tmod_pos, tdiv_pos, Int.toNat_add, q5, hx3, Iid.av, Iid.c]; rfl) ?_ | refine zb ?_ | refine zo ?_ | refine zt ?_ | refine zf ?_)
    refine zp (callable_of Try.func37) _ (hp _) ?_
    rintro _ _ ⟨rfl, rfl⟩
    cases hb2 : b.contains k with
    | true =>
      rw [hb2, if_pos rfl, List.append_nil] at hs
      refine ze ?_
      repeat (first | ((first | refine zd ?_ | refine zx ?_ | refine zk ?_ | refine zl ?_ | refine zr ?_); refine zq ?_) | refine zs ?_ | refine zg ?_ | refine zb ?_ | refine zo ?_ | refine zt ?_ | refine zf ?_)
      exact ⟨a.length - (j + 1), hz, j + 1, tok, X, rfl, hj2, ht, by rw [hs]; exact st_keep' (by simp []) (by simp [])⟩
    | false =>
      rw [hb2, if_neg (by simp)] at hs
      generalize sub (a.take j) b = acc at *
      rcases ht with rfl | ⟨i, rfl, hi⟩
      · refine ze ?_
        repeat (first | ((first | refine zd ?_ | refine zx ?_ | refine zk ?_ | refine zl ?_ | refine zr ?_); refine zq ?_) | refine zs ?_ | refine zh (by simp -implicitDefEqProofs (disch := (first | omega | (simp; done) | fail)) [if_pos, if_neg, wrap_i64, tmod_pos, tdiv_pos, Int.toNat_add, hx3, Iid.av, Iid.c, q5, q6, q7]; rfl) ?_ | refine zb ?_ | refine zo ?_ | refine zt ?_ | refine zf ?_)
        exact ⟨a.length - (j + 1), hz, j + 1, .own (h.length + X.length), X ++ [.tail 25 3], rfl, hj2, .new (by simp), by rw [hs]; exact st_keep' (by simp [Iid.av, Iid.c]) (by simp [Iid.av, Iid.c])⟩
      · refine ze ?_
        repeat (first | ((first | refine zd ?_ | refine zx ?_ | refine zk ?_ | refine zl ?_ | refine zr ?_); refine zq ?_) | refine zs ?_ | refine zh (by simp -implicitDefEqProofs (disch := (first | omega | (simp; done) | fail)) [if_pos, if_neg, wrap_i64, tmod_pos, tdiv_pos, Int.toNat_add, hx3, Iid.av, Iid.c, q5, q6, q7, hi]; rfl) ?_ | refine zb ?_ | refine zo ?_ | refine zt ?_ | refine zf ?_)
        exact ⟨a.length - (j + 1), hz, j + 1, .own (h.length + X.length), X.set i .dead ++ [.tail 25 3], rfl, hj2, .new (by simp), by rw [hs]; exact st_keep' (by simp [Iid.av, Iid.c]) (by simp [Iid.av, Iid.c])⟩
  · exact ⟨0, .full, [], rfl, by omega, .full, by rw [List.take_zero]; exact st_keep' (by simp [sub]) (by simp [sub])⟩
end Go.Proofs.Ytajgeofhlgoifaa.G

/- Graphs: the document's answers: of, Find, Valid. -/
set_option linter.unusedVariables false
set_option linter.unusedSimpArgs false
set_option maxRecDepth 20000
namespace Go.Proofs.Ytajgeofhlgoifaa.G
open Go Go.Proofs.Ytajgeofhlgoifaa.V Go.Proofs.Ytajgeofhlgoifaa.I Go.Sort Go.RowKit
attribute [-simp] List.length_flatten List.map_flatten List.map_take List.map_drop
theorem nbig56 {n : Nat} (h : n ≤ 1000) : (n + 1) * 56 ≤ 140737488355328 ∧ n ≤ 140737488355327 := by omega
theorem of12_ok (l : List Nod) (t : Tok) (hl : l.length ≤ 100) (h : AHeap) : ACalls Try.prog 12 [.list (l.map Nod.av) t] h fun r h' => r = .list (l.map Nod.av) .no ∧ ∃ X, h' = h ++ X := by
  have hu := nod_uni l
  refine acalls_of_awp Try.func12 rfl (by simp only [List.length_cons, List.length_nil]; decide) ?_
  simp only [params_cons, params_nil]
  refine awp_seq ?_
  refine zg ?_
  refine goes_done ?_
  (try simp only [vq, if_true, reduceIte, Nat.reduceEqDiff, reduceCtorEq])
  refine awp_seq ?_
  refine zg ?_
  refine goes_done ?_
  (try simp only [vq, if_true, reduceIte, Nat.reduceEqDiff, reduceCtorEq])
  refine awp_seq ?_
  refine awp_seq ?_
  refine zg ?_
  refine goes_done ?_
  (try simp only [vq, if_true, reduceIte, Nat.reduceEqDiff, reduceCtorEq])
  refine awp_block ?_
  refine awp_loop (fun z st => ∃ (i : Nat) (tok : Tok) (X : AHeap), z = l.length - i ∧ i ≤ l.length ∧ TokZ h.length X 52 5 tok ∧ st.le ⟨Try.f12.ntmps, [(0, .list (l.map Nod.av) t), (3, .list ((l.take i).map Nod.av) tok), (4, iv (i : Nat))], h ++ X⟩) l.length ?_ ?_
  rotate_left
  rintro z st ⟨i, tok, X, rfl, hi, ht, hle⟩
  · refine awp_le hle ?_
    clear hle
    by_cases h9 : i = l.length
    · subst h9
      have q : ¬ (l.length : Int) < (l.length : Int) := by omega
      rw [List.take_length]
      refine awp_seq ?_
      refine awp_seq ?_
      refine zh (by simp -implicitDefEqProofs (disch := (first | omega | (simp; done) | fail)) [if_pos, if_neg, wrap_i64, tmod_pos, tdiv_pos, Int.toNat_add, q]; rfl) ?_
      refine goes_done ?_
      (try simp only [vq, if_true, reduceIte, Nat.reduceEqDiff, reduceCtorEq])
      refine awp_cond_f rfl ?_
      refine awp_exit ?_
      (try simp only [vq, if_true, reduceIte, Nat.reduceEqDiff, reduceCtorEq])
      repeat (first | ((first | refine zd ?_ | refine zx ?_ | refine zk ?_ | refine zl ?_ | refine zr ?_); refine zq ?_) | refine zs ?_ | refine zg ?_ | refine zb ?_ | refine zo ?_ | refine zt ?_ | refine zf ?_)
      first | refine body_all (.inr rfl) (by simp -implicitDefEqProofs; rfl) (by simp -implicitDefEqProofs; rfl) (by first | (simp; done) | (simp; omega) | omega) ?_ | refine body_all (.inl rfl) (by simp -implicitDefEqProofs; rfl) (by simp -implicitDefEqProofs; rfl) (by first | (simp; done) | (simp; omega) | omega) ?_
      exact ⟨rfl, _, rfl⟩
    · have hlt : i < l.length := by omega
      have q : (i : Int) < (l.length : Int) := by omega
      have hx2 : (l.map Nod.av)[i]? = some (Nod.av l[i]) := by simp [hlt]
      have htk : l.take (i + 1) = l.take i ++ [l[i]] := List.take_succ_eq_append_getElem hlt
      have hln : (l.take i).length = i := by rw [List.length_take]; omega
      obtain ⟨q1, q2⟩ := nbig56 (n := (l.take i).length) (by omega)
      refine awp_seq ?_
      refine awp_seq ?_
      refine zh (by simp -implicitDefEqProofs (disch := (first | omega | (simp; done) | fail)) [if_pos, if_neg, wrap_i64, tmod_pos, tdiv_pos, Int.toNat_add, q]; rfl) ?_
      refine goes_done ?_
      (try simp only [vq, if_true, reduceIte, Nat.reduceEqDiff, reduceCtorEq])
      refine awp_cond_t rfl ?_
      refine awp_skip ?_
      simp only [vq, if_true, reduceIte, Nat.reduceEqDiff, reduceCtorEq]
      refine awp_seq ?_
      refine awp_block ?_
      generalize l[i] = x at *
      generalize l.take i = acc at *
      have hua := nod_uni acc
      rcases ht with rfl | ⟨j, rfl, hj⟩
      · refine awp_draw (.q 0 (.q 1 (.q 2 (.q 3 (.q 4 (.q 5 (.q 6 (.q 7 (.q 8 (.q 9 (.q 10 (.q 11 (.a 12 (.a 13 (.q 14 (.done)))))))))))))))) (by kernel_rfl) (by kernel_rfl) (tree_start (goesT_eq (by simp -implicitDefEqProofs (disch := (first | omega | (simp; done) | fail)) [if_pos, if_neg, wrap_i64, tmod_pos, tdiv_pos, Int.toNat_add, hx2, hu, hua, q, q1, q2, Nod.av, Nod.c]; rfl) ?_))
        refine goesT_done ?_
        (try simp only [vq, if_true, reduceIte, Nat.reduceEqDiff, reduceCtorEq])
        repeat (first | ((first | refine zd ?_ | refine zx ?_ | refine zk ?_ | refine zl ?_ | refine zr ?_); refine zq ?_) | refine zs ?_ | refine zg ?_ | refine zb ?_ | refine zo ?_ | refine zt ?_ | refine zf ?_)
        refine ⟨l.length - (i + 1), by omega, i + 1, .own (h.length + X.length), X ++ [.tail 52 5], rfl, hlt, .inr ⟨X.length, rfl, by simp⟩, ?_⟩
        rw [htk]
        exact st_keep' (by simp [Nod.av, Nod.c]) (by simp [Nod.av, Nod.c])
      · skip
        refine awp_draw (.q 0 (.q 1 (.q 2 (.q 3 (.q 4 (.q 5 (.q 6 (.q 7 (.q 8 (.q 9 (.q 10 (.q 11 (.a 12 (.a 13 (.q 14 (.done)))))))))))))))) (by kernel_rfl) (by kernel_rfl) (tree_start (goesT_eq (by simp -implicitDefEqProofs (disch := (first | omega | (simp; done) | fail)) [if_pos, if_neg, wrap_i64, tmod_pos, tdiv_pos, Int.toNat_add, hx2, hu, hua, q, q1, q2, hj, Nod.av, Nod.c]; rfl) ?_))
        refine goesT_done ?_
        (try simp only [vq, if_true, reduceIte, Nat.reduceEqDiff, reduceCtorEq])
        repeat (first | ((first | refine zd ?_ | refine zx ?_ | refine zk ?_ | refine zl ?_ | refine zr ?_); refine zq ?_) | refine zs ?_ | refine zg ?_ | refine zb ?_ | refine zo ?_ | refine zt ?_ | refine zf ?_)
        refine ⟨l.length - (i + 1), by omega, i + 1, .own (h.length + X.length), X.set j .dead ++ [.tail 52 5], rfl, hlt, .inr ⟨X.length, rfl, by simp⟩, ?_⟩
        rw [htk]
        exact st_keep' (by simp [Nod.av, Nod.c]) (by simp [Nod.av, Nod.c])
  · exact ⟨0, .full, [], rfl, by omega, .inl rfl, st_keep' (by simp []) (by simp [])⟩
def idsN (l : List Nod) : List Iid := l.map (·.id)
theorem idsN_at {l : List Nod} {i : Nat} (h : i < l.length) : (idsN l)[i]? = some l[i].id := by simp [idsN, h]
theorem idxI_at {ks : List Iid} {x : Iid} {i : Nat} (hg : ks[i]? = some x) (hno : ∀ j, j < i → ks[j]? ≠ some x) : idxI x ks = (i : Nat) := by
  have hm : x ∈ ks := List.mem_of_getElem? hg
  have e : ks.idxOf x = i := by
    have h1 := List.idxOf_lt_length_of_mem hm
    have h2 : ks[ks.idxOf x] = x := List.getElem_idxOf h1
    have h3 : ks.idxOf x ≤ i := idx_le hg
    rcases Nat.lt_or_ge (ks.idxOf x) i with h | h
    · exact absurd (by rw [List.getElem?_eq_getElem h1, h2]) (hno _ h)
    · omega
  simp [idxI, hm, e]
theorem find_ok (l : List Nod) (x : Iid) (t : Tok) (hl : l.length ≤ 1000) (H : AHeap) : ACalls Try.prog 39 [.list (l.map Nod.av) t, Iid.av x] H fun r h' => r = iv (idxI x (idsN l)) ∧ h' = H := by
  have hu := nod_uni l
  show ACalls _ _ [.list (l.map Nod.av) t, .agg [iv x.e, iv x.n, iv x.o]] _ _
  refine acalls_of_awp Try.func39 rfl (by simp only [List.length_cons, List.length_nil]; decide) ?_
  simp only [params_cons, params_nil]
  refine awp_seq ?_
  refine zg ?_
  refine goes_done ?_
  (try simp only [vq, if_true, reduceIte, Nat.reduceEqDiff, reduceCtorEq])
  refine awp_hard (id := H.length) (by simp -implicitDefEqProofs; rfl) ?_
  simp -implicitDefEqProofs only [Slots.melt, AV.melt, Nat.add_left_cancel_iff, Nat.add_eq_left, Nat.left_eq_add, Nat.reduceEqDiff, reduceIte, Nat.succ_ne_self, Nat.one_ne_zero, Nat.zero_ne_one, List.set_append_right, List.set_append_left, Nat.sub_self, Nat.le_refl, Nat.add_sub_cancel_left, Nat.le_add_right, List.set_cons_zero, List.set_cons_succ]
  refine awp_seq ?_
  refine awp_seq ?_
  refine zg ?_
  refine goes_done ?_
  (try simp only [vq, if_true, reduceIte, Nat.reduceEqDiff, reduceCtorEq])
  refine awp_block ?_
  refine awp_loop (fun z st => ∃ (i : Nat) (X : AHeap), z = l.length - i ∧ i ≤ l.length ∧ (∀ j, j < i → (idsN l)[j]? ≠ some x) ∧ st.le ⟨Try.f39.ntmps, [(0, .list (l.map Nod.av) t), (3, .ref [iv x.e, iv x.n, iv x.o] 0), (5, iv (i : Nat))], H ++ X⟩) l.length ?_ ?_
  rotate_left
  rintro z st ⟨i, X, rfl, hi, hno, hle⟩
  · refine awp_le hle ?_
    clear hle
    by_cases h9 : i = l.length
    · subst h9
      have q : ¬ (l.length : Int) < (l.length : Int) := by omega
      repeat (first | ((first | refine zd ?_ | refine zx ?_ | refine zk ?_ | refine zl ?_ | refine zr ?_); refine zq ?_) | refine zs ?_ | refine zh (by simp -implicitDefEqProofs (disch := (first | omega | (simp; done) | fail)) [if_pos, if_neg, wrap_i64, tmod_pos, tdiv_pos, Int.toNat_add, q]; rfl) ?_ | refine zb ?_ | refine zo ?_ | refine zt ?_ | refine zf ?_)
      first | refine zy (.inr rfl) ?_ | refine zy (.inl rfl) ?_
      have : x ∉ idsN l := fun hx => by
        obtain ⟨j, hj, e⟩ := List.getElem_of_mem hx
        exact hno j (by simpa [idsN] using hj) (by rw [List.getElem?_eq_getElem hj, e])
      simp [idxI, this]
    · have hlt : i < l.length := by omega
      have q : (i : Int) < (l.length : Int) := by omega
      have hx2 : (l.map Nod.av)[i]? = some (Nod.av l[i]) := by simp [hlt]
      have hne := eqb0 l[i].id x
      have hat := idsN_at hlt
      generalize l[i] = k at *
      refine awp_seq ?_
      refine awp_seq ?_
      refine zh (by simp -implicitDefEqProofs (disch := (first | omega | (simp; done) | fail)) [if_pos, if_neg, wrap_i64, tmod_pos, tdiv_pos, Int.toNat_add, q]; rfl) ?_
      refine goes_done ?_
      (try simp only [vq, if_true, reduceIte, Nat.reduceEqDiff, reduceCtorEq])
      refine awp_cond_t rfl ?_
      refine awp_skip ?_
      simp only [vq, if_true, reduceIte, Nat.reduceEqDiff, reduceCtorEq]
      refine awp_seq ?_
      refine awp_block ?_
      refine awp_seq ?_
      by_cases hx : k.id = x
      · rw [decide_eq_true hx] at hne
        refine awp_draw (.q 0 (.q 1 (.q 2 (.q 3 (.q 4 (.q 5 (.q 6 (.done)))))))) (by kernel_rfl) (by kernel_rfl) (tree_start (goesT_eq (by simp -implicitDefEqProofs (disch := (first | omega | (simp; done) | fail)) [if_pos, if_neg, wrap_i64, tmod_pos, tdiv_pos, Int.toNat_add, hx2, hu, q, hne, Nod.av, Nod.c]; rfl) ?_))
        refine goesT_done ?_
        (try simp only [vq, if_true, reduceIte, Nat.reduceEqDiff, reduceCtorEq])
        repeat (first | ((first | refine zd ?_ | refine zx ?_ | refine zk ?_ | refine zl ?_ | refine zr ?_); refine zq ?_) | refine zs ?_ | refine zg ?_ | refine zb ?_ | refine zo ?_ | refine zt ?_ | refine zf ?_)
        first | refine zy (.inr rfl) ?_ | refine zy (.inl rfl) ?_
        rw [idxI_at (by rw [hat, hx]) hno]
        exact ⟨rfl, rfl⟩
      · rw [decide_eq_false hx] at hne
        refine awp_draw (.q 0 (.q 1 (.q 2 (.q 3 (.q 4 (.q 5 (.q 6 (.done)))))))) (by kernel_rfl) (by kernel_rfl) (tree_start (goesT_eq (by simp -implicitDefEqProofs (disch := (first | omega | (simp; done) | fail)) [if_pos, if_neg, wrap_i64, tmod_pos, tdiv_pos, Int.toNat_add, hx2, hu, q, hne, Nod.av, Nod.c]; rfl) ?_))
        refine goesT_done ?_
        (try simp only [vq, if_true, reduceIte, Nat.reduceEqDiff, reduceCtorEq])
        repeat (first | ((first | refine zd ?_ | refine zx ?_ | refine zk ?_ | refine zl ?_ | refine zr ?_); refine zq ?_) | refine zs ?_ | refine zg ?_ | refine zb ?_ | refine zo ?_ | refine zt ?_ | refine zf ?_)
        refine ⟨l.length - (i + 1), by omega, i + 1, X, rfl, hlt, fun j hj => ?_, st_keep' (by simp []) (by simp [])⟩
        by_cases e : j = i
        · subst e; rw [hat]; exact fun h => hx (Option.some.inj h)
        · exact hno j (by omega)
  · exact ⟨0, [.dead], rfl, by omega, by omega, st_keep' (by simp []) (by simp [])⟩
/-- What is looked at in one place is told from all ahead of it. -/
theorem valid_no {l : List Nod} {i j : Nat} (hi : i < l.length) (hj : j < i) (e : l[i].id = l[j].id) : validB l = false := by
  unfold validB
  simp only [Bool.and_eq_false_iff, decide_eq_false_iff_not]
  refine .inl fun hn => ?_
  have := nd_inj hn (i := i) (j := j) (by simpa using hi) (by simp; omega) (by simp [e])
  omega
theorem valid_yes {l : List Nod} (h : ∀ i, i < l.length → ∀ j, j < i → (idsN l)[i]? ≠ (idsN l)[j]?) : validB l = decide (l.length ≤ 1024) := by
  have hn : (l.map (·.id)).Nodup := by
    refine List.pairwise_iff_getElem.2 fun j i hj hi hji e => ?_
    refine h i (by simpa using hi) j hji ?_
    unfold idsN
    rw [List.getElem?_eq_getElem hi, List.getElem?_eq_getElem hj, e]
  unfold validB
  simp [hn]
set_option maxHeartbeats 1000000 in
theorem rvalid_ok (l : List Nod) (t : Tok) (hl : l.length ≤ 1000) (H : AHeap) : ACalls Try.prog 14 [.list (l.map Nod.av) t] H fun r h' => r = .bool (validB l) ∧ h' = H := by
  have hu := nod_uni l
  have hl9 : (l.length : Int) ≤ 1024 := by omega
  refine acalls_of_awp Try.func14 rfl (by simp only [List.length_cons, List.length_nil]; decide) ?_
  simp only [params_cons, params_nil]
  refine awp_seq ?_
  refine zg ?_
  refine goes_done ?_
  (try simp only [vq, if_true, reduceIte, Nat.reduceEqDiff, reduceCtorEq])
  refine awp_seq ?_
  refine awp_seq ?_
  refine zg ?_
  refine goes_done ?_
  (try simp only [vq, if_true, reduceIte, Nat.reduceEqDiff, reduceCtorEq])
  refine awp_block ?_
  refine awp_loop (fun z st => ∃ (i : Nat), z = l.length - i ∧ i ≤ l.length ∧ (∀ a, a < i → ∀ j, j < a → (idsN l)[a]? ≠ (idsN l)[j]?) ∧ st.le ⟨Try.f14.ntmps, [(0, .list (l.map Nod.av) t), (3, iv (i : Nat))], H⟩) l.length ?_ ?_
  rotate_left
  rintro z st ⟨i, rfl, hi, hno, hle⟩
  · refine awp_le hle ?_
    clear hle
    by_cases h9 : i = l.length
    · subst h9
      have q : ¬ (l.length : Int) < (l.length : Int) := by omega
      rw [valid_yes hno]
      repeat (first | ((first | refine zd ?_ | refine zx ?_ | refine zk ?_ | refine zl ?_ | refine zr ?_); refine zq ?_) | refine zs ?_ | refine zh (by simp -implicitDefEqProofs (disch := (first | omega | (simp; done) | fail)) [if_pos, if_neg, wrap_i64, tmod_pos, tdiv_pos, Int.toNat_add, q]; rfl) ?_ | refine zb ?_ | refine zo ?_ | refine zt ?_ | refine zf ?_)
      first | refine zY (.inr rfl) ?_ | refine zY (.inl rfl) ?_
      simp
      omega
    · have hlt : i < l.length := by omega
      have q : (i : Int) < (l.length : Int) := by omega
      have hx2 : (l.map Nod.av)[i]? = some (Nod.av l[i]) := by simp [hlt]
      have hat := idsN_at hlt
      have hvn := fun j (hj : j < i) => valid_no (l := l) hlt hj
      generalize hk : l[i] = k at *
      refine awp_seq ?_
      refine awp_seq ?_
      refine zh (by simp -implicitDefEqProofs (disch := (first | omega | (simp; done) | fail)) [if_pos, if_neg, wrap_i64, tmod_pos, tdiv_pos, Int.toNat_add, q]; rfl) ?_
      refine goes_done ?_
      (try simp only [vq, if_true, reduceIte, Nat.reduceEqDiff, reduceCtorEq])
      refine awp_cond_t rfl ?_
      refine awp_skip ?_
      simp only [vq, if_true, reduceIte, Nat.reduceEqDiff, reduceCtorEq]
      refine awp_seq ?_
      refine awp_block ?_
      refine awp_seq ?_
      refine zg ?_
      refine goes_done ?_
      (try simp only [vq, if_true, reduceIte, Nat.reduceEqDiff, reduceCtorEq])
      refine awp_block ?_
      refine awp_loop (fun z st => ∃ (j : Nat), z = i - j ∧ j ≤ i ∧ (∀ a, a < j → (idsN l)[i]? ≠ (idsN l)[a]?) ∧ st.le ⟨Try.f14.ntmps, [(0, .list (l.map Nod.av) t), (3, iv (i : Nat)), (4, iv (j : Nat))], H⟩) i ?_ ?_
      rotate_left
      rintro z st ⟨j, rfl, hj, hno2, hle⟩
      · refine awp_le hle ?_
        clear hle
        by_cases h8 : j = i
        · subst h8
          have q2 : ¬ (j : Int) < (j : Int) := by omega
          repeat (first | ((first | refine zd ?_ | refine zx ?_ | refine zk ?_ | refine zl ?_ | refine zr ?_); refine zq ?_) | refine zs ?_ | refine zh (by simp -implicitDefEqProofs (disch := (first | omega | (simp; done) | fail)) [if_pos, if_neg, wrap_i64, tmod_pos, tdiv_pos, Int.toNat_add, q2]; rfl) ?_ | refine zb ?_ | refine zo ?_ | refine zt ?_ | refine zf ?_)
          refine ⟨l.length - (j + 1), by omega, j + 1, rfl, hlt, fun a ha b hb => ?_, st_keep' (by simp []) (by simp [])⟩
          by_cases e : a = j
          · subst e; exact hno2 b hb
          · exact hno a (by omega) b hb
        · have hji : j < i := by omega
          have q2 : (j : Int) < (i : Int) := by omega
          have hjl : j < l.length := by omega
          have q3 : (j : Int) < (l.length : Int) := by omega
          have hx3 : (l.map Nod.av)[j]? = some (Nod.av l[j]) := by simp [hjl]
          have hne := eqb0 k.id l[j].id
          have hat2 := idsN_at hjl
          have hvj := hvn j hji
          generalize l[j] = m at *
          refine awp_seq ?_
          refine awp_seq ?_
          refine zh (by simp -implicitDefEqProofs (disch := (first | omega | (simp; done) | fail)) [if_pos, if_neg, wrap_i64, tmod_pos, tdiv_pos, Int.toNat_add, q2]; rfl) ?_
          refine goes_done ?_
          (try simp only [vq, if_true, reduceIte, Nat.reduceEqDiff, reduceCtorEq])
          refine awp_cond_t rfl ?_
          refine awp_skip ?_
          simp only [vq, if_true, reduceIte, Nat.reduceEqDiff, reduceCtorEq]
          refine awp_seq ?_
          refine awp_block ?_
          refine awp_seq ?_
          by_cases hx : k.id = m.id
          · rw [decide_eq_true hx] at hne
            rw [hvj hx]
            refine awp_draw (.q 0 (.q 1 (.q 2 (.q 3 (.q 4 (.q 5 (.q 6 (.q 7 (.q 8 (.q 9 (.q 10 (.done)))))))))))) (by kernel_rfl) (by kernel_rfl) (tree_start (goesT_eq (by simp -implicitDefEqProofs (disch := (first | omega | (simp; done) | fail)) [if_pos, if_neg, wrap_i64, tmod_pos, tdiv_pos, Int.toNat_add, hx2, hx3, hu, q, q3, hne, Nod.av, Nod.c]; rfl) ?_))
            refine goesT_done ?_
            (try simp only [vq, if_true, reduceIte, Nat.reduceEqDiff, reduceCtorEq])
            repeat (first | ((first | refine zd ?_ | refine zx ?_ | refine zk ?_ | refine zl ?_ | refine zr ?_); refine zq ?_) | refine zs ?_ | refine zg ?_ | refine zb ?_ | refine zo ?_ | refine zt ?_ | refine zf ?_)
            first | refine zY (.inr rfl) ?_ | refine zY (.inl rfl) ?_
            simp
          · rw [decide_eq_false hx] at hne
            refine awp_draw (.q 0 (.q 1 (.q 2 (.q 3 (.q 4 (.q 5 (.q 6 (.q 7 (.q 8 (.q 9 (.q 10 (.done)))))))))))) (by kernel_rfl) (by kernel_rfl) (tree_start (goesT_eq (by simp -implicitDefEqProofs (disch := (first | omega | (simp; done) | fail)) [if_pos, if_neg, wrap_i64, tmod_pos, tdiv_pos, Int.toNat_add, hx2, hx3, hu, q, q3, hne, Nod.av, Nod.c]; rfl) ?_))
            refine goesT_done ?_
            (try simp only [vq, if_true, reduceIte, Nat.reduceEqDiff, reduceCtorEq])
            repeat (first | ((first | refine zd ?_ | refine zx ?_ | refine zk ?_ | refine zl ?_ | refine zr ?_); refine zq ?_) | refine zs ?_ | refine zg ?_ | refine zb ?_ | refine zo ?_ | refine zt ?_ | refine zf ?_)
            refine ⟨i - (j + 1), by omega, j + 1, rfl, hji, fun a ha => ?_, st_keep' (by simp []) (by simp [])⟩
            by_cases e : a = j
            · subst e; rw [hat, hat2]; exact fun h => hx (Option.some.inj h)
            · exact hno2 a (by omega)
      · exact ⟨0, rfl, by omega, by omega, st_keep' (by simp []) (by simp [])⟩
  · exact ⟨0, rfl, by omega, by omega, st_keep' (by simp []) (by simp [])⟩
end Go.Proofs.Ytajgeofhlgoifaa.G

/- Graphs: the document's answer: Lead. -/
set_option linter.unusedVariables false
set_option linter.unusedSimpArgs false
set_option maxRecDepth 20000
namespace Go.Proofs.Ytajgeofhlgoifaa.G
open Go Go.Proofs.Ytajgeofhlgoifaa.V Go.Proofs.Ytajgeofhlgoifaa.I Go.Sort Go.RowKit
attribute [-simp] List.length_flatten List.map_flatten List.map_take List.map_drop
theorem find_in {l : List Nod} (hv : validB l = true) {x : Iid} (hx : x ∈ idsN l) : ∃ i, ∃ h : i < l.length, idxI x (idsN l) = (i : Nat) ∧ dpOf l x = l[i].deps ∧ l[i].id = x ∧ sqOf l x = l[i].seq := by
  have h1 := List.idxOf_lt_length_of_mem hx
  have h2 : (idsN l)[(idsN l).idxOf x] = x := List.getElem_idxOf h1
  have hi : (idsN l).idxOf x < l.length := by simpa [idsN] using h1
  have h3 : l[(idsN l).idxOf x].id = x := by
    have := idsN_at hi
    rw [List.getElem?_eq_getElem h1, h2] at this
    exact (Option.some.inj this).symm
  have h4 := dp_at hv hi
  rw [h3] at h4
  exact ⟨_, hi, by simp [idxI, hx], h4.1, h3, h4.2⟩
theorem find_out {l : List Nod} {x : Iid} (hx : x ∉ idsN l) : idxI x (idsN l) = -1 ∧ dpOf l x = [] := by
  refine ⟨by simp [idxI, hx], ?_⟩
  unfold dpOf findN
  rw [List.find?_eq_none.2 fun y hy => by
    simp only [decide_eq_true_eq]
    intro e
    exact hx (List.mem_map.2 ⟨y, by simpa using hy, e⟩)]
  rfl
/-- Between two steps: the first i were looked at. -/
structure LOut (dp : Iid → List Iid) (dn : List Iid) (f : Iid) (out : List Iid) (i : Nat) : Prop where
  nd : out.Nodup
  sd : ∀ y ∈ out, Lead dp dn f y
  beg : ∀ y ∈ dp f, y ∈ out
  nxt : ∀ j x, j < i → out[j]? = some x → x ∉ dn → ∀ y ∈ dp x, y ∈ out
structure LMidR (dp : Iid → List Iid) (dn : List Iid) (f : Iid) (out acc : List Iid) (x : Iid) (j : Nat) : Prop where
  pre : ∃ s, acc = out ++ s
  nd : acc.Nodup
  sd : ∀ y ∈ acc, Lead dp dn f y
  tk : ∀ y ∈ (dp x).take j, y ∈ acc
section
variable {dp : Iid → List Iid} {dn : List Iid} {f x : Iid} {out acc : List Iid} {i j : Nat}
theorem LOut.start : LOut dp dn f (clean (dp f)) 0 :=
  ⟨ris_nodup0 (clean_ris _), fun y hy => .first ((clean_mem _ _).1 hy), fun y hy => (clean_mem _ _).2 hy, by omega⟩
theorem LOut.skip (I : LOut dp dn f out i) (hx : out[i]? = some x) (hd : x ∈ dn ∨ dp x = []) : LOut dp dn f out (i + 1) :=
  ⟨I.nd, I.sd, I.beg, fun j y hj hy hn z hz => by
    by_cases e : j = i
    · subst e
      rw [hx] at hy
      cases hy
      rcases hd with h | h
      · exact absurd h hn
      · rw [h] at hz; cases hz
    · exact I.nxt j y (by omega) hy hn z hz⟩
theorem LOut.mid (I : LOut dp dn f out i) : LMidR dp dn f out out x 0 := ⟨⟨[], by simp⟩, I.nd, I.sd, by simp⟩
theorem LMidR.old (I : LMidR dp dn f out acc x j) {y : Iid} (hy : (dp x)[j]? = some y) (hm : y ∈ acc) : LMidR dp dn f out acc x (j + 1) :=
  ⟨I.pre, I.nd, I.sd, fun z hz => by
    rw [List.take_add_one, hy] at hz
    rcases List.mem_append.1 hz with h | h
    · exact I.tk z h
    · simp at h; rw [h]; exact hm⟩
theorem LMidR.new (I : LMidR dp dn f out acc x j) {y : Iid} (hy : (dp x)[j]? = some y) (hm : y ∉ acc) (hx : x ∈ out) (hd : x ∉ dn) : LMidR dp dn f out (acc ++ [y]) x (j + 1) := by
  obtain ⟨s, hs⟩ := I.pre
  refine ⟨⟨s ++ [y], by rw [hs]; simp⟩, ?_, fun z hz => ?_, fun z hz => ?_⟩
  · rw [List.nodup_append]; exact ⟨I.nd, by simp, fun a ha b hb e => by simp at hb; subst hb; subst e; exact hm ha⟩
  · rcases List.mem_append.1 hz with h | h
    · exact I.sd z h
    · simp at h; subst h
      exact .next (I.sd x (by rw [hs]; simp [hx])) hd (List.mem_of_getElem? hy)
  · rw [List.take_add_one, hy] at hz
    rcases List.mem_append.1 hz with h | h
    · exact List.mem_append.2 (.inl (I.tk z h))
    · simp at h; rw [h]; simp
theorem LMidR.fin (I : LMidR dp dn f out acc x (dp x).length) (O : LOut dp dn f out i) (hx : out[i]? = some x) : LOut dp dn f acc (i + 1) ∧ i + 1 ≤ acc.length := by
  obtain ⟨s, hs⟩ := I.pre
  have hi := (List.getElem?_eq_some_iff.1 hx).1
  have hk := I.tk
  rw [List.take_length] at hk
  refine ⟨⟨I.nd, I.sd, fun y hy => by rw [hs]; simp [O.beg y hy], fun j y hj hy hn z hz => ?_⟩, by rw [hs, List.length_append]; omega⟩
  rw [hs, List.getElem?_append_left (by omega)] at hy
  by_cases e : j = i
  · subst e
    rw [hx] at hy
    cases hy
    exact hk z hz
  · have := O.nxt j y (by omega) hy hn z hz
    rw [hs]; simp [this]
theorem LOut.fin (I : LOut dp dn f out out.length) (y : Iid) : y ∈ out ↔ Lead dp dn f y := by
  refine ⟨I.sd y, fun h => ?_⟩
  induction h with
  | first h => exact I.beg _ h
  | next _ hd h ih =>
    obtain ⟨j, hj, e⟩ := List.getElem_of_mem ih
    exact I.nxt j _ hj (by rw [List.getElem?_eq_getElem hj, e]) hd _ h
end
end Go.Proofs.Ytajgeofhlgoifaa.G

/- Graphs: the document's answer: Lead, its walk. -/
set_option linter.unusedVariables false
set_option linter.unusedSimpArgs false
set_option maxRecDepth 20000
set_option maxHeartbeats 2000000
namespace Go.Proofs.Ytajgeofhlgoifaa.G
open Go Go.Proofs.Ytajgeofhlgoifaa.V Go.Proofs.Ytajgeofhlgoifaa.I Go.Sort Go.RowKit
attribute [-simp] List.length_flatten List.map_flatten List.map_take List.map_drop
theorem rlead_ok (l : List Nod) (f : Iid) (dn : List Iid) (t td : Tok) (hs : Small l []) (hv : validB l = true) (hdn : dn.length ≤ 1000) (h : AHeap) :
    ACalls Try.prog 45 [.list (l.map Nod.av) t, Iid.av f, .list (dn.map Iid.av) td] h fun r h' => ∃ (ks : List Iid) (X : AHeap), r = .list (ks.map Iid.av) .no ∧ h' = h ++ X ∧ ks.Nodup ∧ ∀ y, y ∈ ks ↔ Lead (dpOf l) dn f y := by
  have hu := nod_uni l
  have hud := iid_uni dn
  have h14 := hs.len
  have hsum := hs.sum
  have hfd := fun h => find_ok l f .no (by omega) h
  show ACalls _ _ [.list (l.map Nod.av) t, .agg [iv f.e, iv f.n, iv f.o], .list (dn.map Iid.av) td] _ _
  unfold Iid.av Iid.c at hfd
  refine acalls_of_awp Try.func45 rfl (by simp only [List.length_cons, List.length_nil]; decide) ?_
  simp only [params_cons, params_nil]
  refine awp_seq ?_
  refine zg ?_
  refine goes_done ?_
  (try simp only [vq, if_true, reduceIte, Nat.reduceEqDiff, reduceCtorEq])
  refine awp_hard (id := h.length) (by simp -implicitDefEqProofs; rfl) ?_
  simp -implicitDefEqProofs only [Slots.melt, AV.melt, Nat.add_left_cancel_iff, Nat.add_eq_left, Nat.left_eq_add, Nat.reduceEqDiff, reduceIte, Nat.succ_ne_self, Nat.one_ne_zero, Nat.zero_ne_one, List.set_append_right, List.set_append_left, Nat.sub_self, Nat.le_refl, Nat.add_sub_cancel_left, Nat.le_add_right, List.set_cons_zero, List.set_cons_succ]
  repeat (first | ((first | refine zd ?_ | refine zx ?_ | refine zk ?_ | refine zl ?_ | refine zr ?_); refine zq ?_) | refine zs ?_ | refine zg ?_ | refine zb ?_ | refine zo ?_ | refine zt ?_ | refine zf ?_)
  refine zp (callable_of Try.func39) _ (hfd _) ?_
  rintro _ _ ⟨rfl, rfl⟩
  refine ze ?_
  refine goes_done ?_
  (try simp only [vq, if_true, reduceIte, Nat.reduceEqDiff, reduceCtorEq])
  by_cases hf : f ∈ idsN l
  case neg =>
    obtain ⟨h1, h2⟩ := find_out hf
    rw [h1]
    repeat (first | ((first | refine zd ?_ | refine zx ?_ | refine zk ?_ | refine zl ?_ | refine zr ?_); refine zq ?_) | refine zs ?_ | refine zg ?_ | refine zb ?_ | refine zo ?_ | refine zt ?_ | refine zf ?_)
    first | refine body_all (.inr rfl) (by simp -implicitDefEqProofs; rfl) (by simp -implicitDefEqProofs; rfl) (by first | (simp; done) | (simp; omega) | omega) ?_ | refine body_all (.inl rfl) (by simp -implicitDefEqProofs; rfl) (by simp -implicitDefEqProofs; rfl) (by first | (simp; done) | (simp; omega) | omega) ?_
    refine ⟨[], _, rfl, rfl, .nil, fun y => ⟨fun h => (by cases h), fun hy => ?_⟩⟩
    have : ∀ y, ¬ Lead (dpOf l) dn f y := fun y hy => by
      induction hy with
      | first h => rw [h2] at h; cases h
      | next _ _ _ ih => exact ih
    exact absurd hy (this y)
  obtain ⟨n, hn, h1, h2, h3, -⟩ := find_in hv hf
  rw [h1]
  have hx2 : (l.map Nod.av)[n]? = some (Nod.av l[n]) := by simp [hn]
  have hdl : l[n].deps.length ≤ 14 := hs.dep _ (List.getElem_mem hn)
  have q : (n : Int) < (l.length : Int) := by omega
  have q0 : ¬ (n : Int) < 0 := by omega
  have hcl := clean_len l[n].deps
  have O := LOut.start (dp := dpOf l) (dn := dn) (f := f)
  rw [h2] at O
  generalize l[n] = x at *
  have hrc := fun h => rclean_ok x.deps .no (by omega) h
  generalize clean x.deps = cl at *
  obtain ⟨q1, q2⟩ := nbig2 (n := cl.length) (by omega)
  have huc := av_onesL cl
  have hcu := iid_uni cl
  repeat (first | ((first | refine zd ?_ | refine zx ?_ | refine zk ?_ | refine zl ?_ | refine zr ?_); refine zq ?_) | refine zs ?_ | refine zh (by simp -implicitDefEqProofs (disch := (first | omega | (simp; done) | fail)) [if_pos, if_neg, wrap_i64, tmod_pos, tdiv_pos, Int.toNat_add, q0, q, hx2, hu, Nod.av, Nod.c]; rfl) ?_ | refine zb ?_ | refine zo ?_ | refine zt ?_ | refine zf ?_)
  refine zp (callable_of Try.func44) _ (hrc _) ?_
  rintro _ _ ⟨rfl, rfl⟩
  refine goes_eq (by simp -implicitDefEqProofs (disch := (first | omega | (simp; done) | fail)) [if_pos, if_neg, wrap_i64, tmod_pos, tdiv_pos, Int.toNat_add, lv, huc, hcu, q1, q2]; rfl) ?_
  refine goes_done ?_
  (try simp only [vq, if_true, reduceIte, Nat.reduceEqDiff, reduceCtorEq])
  clear hfd hrc h1 h3 hx2 hdl q q0 hcl q1 q2 huc hcu hf
  clear h2
  refine awp_seq ?_
  refine awp_seq ?_
  refine zg ?_
  refine goes_done ?_
  (try simp only [vq, if_true, reduceIte, Nat.reduceEqDiff, reduceCtorEq])
  refine awp_block ?_
  refine awp_loop (fun z st => ∃ (i : Nat) (out : List Iid) (tok : Tok) (X : AHeap), z = 1000 - i ∧ i ≤ out.length ∧ LOut (dpOf l) dn f out i ∧ TokZ h.length X 25 3 tok ∧ st.le ⟨Try.f45.ntmps, [(0, .list (l.map Nod.av) t), (2, .list (dn.map Iid.av) td), (7, .list (out.map Iid.av) tok), (9, iv (i : Nat))], h ++ X⟩) 1000 ?_ ?_
  rotate_left
  rintro z st ⟨i, out, tok, X, rfl, hi, O, ht, hle⟩
  · refine awp_le hle ?_
    clear hle
    have hol := Nat.le_trans (lead_len O.nd O.sd) hsum
    have huo := iid_uni out
    by_cases h9 : i = out.length
    · subst h9
      have q : ¬ (out.length : Int) < (out.length : Int) := by omega
      repeat (first | ((first | refine zd ?_ | refine zx ?_ | refine zk ?_ | refine zl ?_ | refine zr ?_); refine zq ?_) | refine zs ?_ | refine zh (by simp -implicitDefEqProofs (disch := (first | omega | (simp; done) | fail)) [if_pos, if_neg, wrap_i64, tmod_pos, tdiv_pos, Int.toNat_add, q]; rfl) ?_ | refine zb ?_ | refine zo ?_ | refine zt ?_ | refine zf ?_)
      first | refine body_all (.inr rfl) (by simp -implicitDefEqProofs; rfl) (by simp -implicitDefEqProofs; rfl) (by first | (simp; done) | (simp; omega) | omega) ?_ | refine body_all (.inl rfl) (by simp -implicitDefEqProofs; rfl) (by simp -implicitDefEqProofs; rfl) (by first | (simp; done) | (simp; omega) | omega) ?_
      exact ⟨out, _, rfl, rfl, O.nd, O.fin⟩
    · have hlt : i < out.length := by omega
      have q : (i : Int) < (out.length : Int) := by omega
      have hg : out[i]? = some out[i] := List.getElem?_eq_getElem hlt
      have hx2 : (out.map Iid.av)[i]? = some (Iid.av out[i]) := by simp [hlt]
      generalize out[i] = y at *
      have hfy := fun h => find_ok l y .no (by omega) h
      have hhy := fun h => rhas_ok dn y .no (by omega) h
      unfold Iid.av at hhy
      rw [show (fun x => AV.agg (Iid.c x)) = Iid.av from rfl] at hhy
      unfold Iid.av Iid.c at hfy
      unfold Iid.c at hhy
      refine awp_seq ?_
      refine awp_seq ?_
      refine zh (by simp -implicitDefEqProofs (disch := (first | omega | (simp; done) | fail)) [if_pos, if_neg, wrap_i64, tmod_pos, tdiv_pos, Int.toNat_add, q]; rfl) ?_
      refine goes_done ?_
      (try simp only [vq, if_true, reduceIte, Nat.reduceEqDiff, reduceCtorEq])
      refine awp_cond_t rfl ?_
      refine awp_skip ?_
      simp only [vq, if_true, reduceIte, Nat.reduceEqDiff, reduceCtorEq]
      refine awp_seq ?_
      refine awp_block ?_
      refine awp_seq ?_
      repeat (first | ((first | refine zd ?_ | refine zx ?_ | refine zk ?_ | refine zl ?_ | refine zr ?_); refine zq ?_) | refine zs ?_ | refine zh (by simp -implicitDefEqProofs (disch := (first | omega | (simp; done) | fail)) [if_pos, if_neg, wrap_i64, tmod_pos, tdiv_pos, Int.toNat_add, hx2, huo, q, Iid.av, Iid.c]; rfl) ?_ | refine zb ?_ | refine zo ?_ | refine zt ?_ | refine zf ?_)
      refine zp (callable_of Try.func39) _ (hfy _) ?_
      rintro _ _ ⟨rfl, rfl⟩
      refine ze ?_
      refine goes_done ?_
      (try simp only [vq, if_true, reduceIte, Nat.reduceEqDiff, reduceCtorEq])
      by_cases hy : y ∈ idsN l
      case neg =>
        obtain ⟨h1, h2⟩ := find_out hy
        rw [h1]
        repeat (first | ((first | refine zd ?_ | refine zx ?_ | refine zk ?_ | refine zl ?_ | refine zr ?_); refine zq ?_) | refine zs ?_ | refine zg ?_ | refine zb ?_ | refine zo ?_ | refine zt ?_ | refine zf ?_)
        exact ⟨1000 - (i + 1), by omega, i + 1, out, tok, X, rfl, hlt, O.skip hg (.inr h2), ht, st_keep' (by simp []) (by simp [])⟩
      obtain ⟨k, hk, h1, h2, -, -⟩ := find_in hv hy
      rw [h1]
      have hx3 : (l.map Nod.av)[k]? = some (Nod.av l[k]) := by simp [hk]
      have hdl : l[k].deps.length ≤ 14 := hs.dep _ (List.getElem_mem hk)
      have qk : (k : Int) < (l.length : Int) := by omega
      have q0 : ¬ (k : Int) < 0 := by omega
      repeat (first | ((first | refine zd ?_ | refine zx ?_ | refine zk ?_ | refine zl ?_ | refine zr ?_); refine zq ?_) | refine zs ?_ | refine zh (by simp -implicitDefEqProofs (disch := (first | omega | (simp; done) | fail)) [if_pos, if_neg, wrap_i64, tmod_pos, tdiv_pos, Int.toNat_add, q0, hx2, huo, q, Iid.av, Iid.c]; rfl) ?_ | refine zb ?_ | refine zo ?_ | refine zt ?_ | refine zf ?_)
      refine zp (callable_of Try.func37) _ (hhy _) ?_
      rintro _ _ ⟨rfl, rfl⟩
      by_cases hd : y ∈ dn
      · have hc : dn.contains y = true := by simpa using hd
        rw [hc]
        refine ze ?_
        refine goes_done ?_
        (try simp only [vq, if_true, reduceIte, Nat.reduceEqDiff, reduceCtorEq])
        repeat (first | ((first | refine zd ?_ | refine zx ?_ | refine zk ?_ | refine zl ?_ | refine zr ?_); refine zq ?_) | refine zs ?_ | refine zg ?_ | refine zb ?_ | refine zo ?_ | refine zt ?_ | refine zf ?_)
        exact ⟨1000 - (i + 1), by omega, i + 1, out, tok, X, rfl, hlt, O.skip hg (.inl hd), ht, st_keep' (by simp []) (by simp [])⟩
      have hc : dn.contains y = false := by simpa using hd
      rw [hc]
      refine ze ?_
      refine goes_done ?_
      (try simp only [vq, if_true, reduceIte, Nat.reduceEqDiff, reduceCtorEq])
      generalize l[k] = x at *
      have M0 := O.mid (x := y)
      have hdx : (dpOf l y).length = x.deps.length := by rw [h2]
      repeat (first | ((first | refine zd ?_ | refine zx ?_ | refine zk ?_ | refine zl ?_ | refine zr ?_); refine zq ?_) | refine zs ?_ | refine zh (by simp -implicitDefEqProofs (disch := (first | omega | (simp; done) | fail)) [if_pos, if_neg, wrap_i64, tmod_pos, tdiv_pos, Int.toNat_add, q0]; rfl) ?_ | refine zb ?_ | refine zo ?_ | refine zt ?_ | refine zf ?_)
      refine awp_loop (fun z st => ∃ (j : Nat) (acc : List Iid) (tok : Tok) (X : AHeap), z = x.deps.length - j ∧ j ≤ x.deps.length ∧ LMidR (dpOf l) dn f out acc y j ∧ TokZ h.length X 25 3 tok ∧ st.le ⟨Try.f45.ntmps, [(0, .list (l.map Nod.av) t), (2, .list (dn.map Iid.av) td), (7, .list (acc.map Iid.av) tok), (9, iv (i : Nat)), (10, iv (k : Nat)), (11, iv (j : Nat))], h ++ X⟩) x.deps.length ?_ ?_
      rotate_left
      rintro z st ⟨j, acc, tok, X, rfl, hj, M, ht, hle⟩
      · refine awp_le hle ?_
        clear hle
        have hal := Nat.le_trans (lead_len M.nd M.sd) hsum
        have hua := iid_uni acc
        by_cases h8 : j = x.deps.length
        · subst h8
          rw [← hdx] at M
          obtain ⟨O2, hi2⟩ := M.fin O hg
          have q2 : ¬ (x.deps.length : Int) < (x.deps.length : Int) := by omega
          repeat (first | ((first | refine zd ?_ | refine zx ?_ | refine zk ?_ | refine zl ?_ | refine zr ?_); refine zq ?_) | refine zs ?_ | refine zh (by simp -implicitDefEqProofs (disch := (first | omega | (simp; done) | fail)) [if_pos, if_neg, wrap_i64, tmod_pos, tdiv_pos, Int.toNat_add, hx3, hu, qk, q2, Nod.av, Nod.c]; rfl) ?_ | refine zb ?_ | refine zo ?_ | refine zt ?_ | refine zf ?_)
          exact ⟨1000 - (i + 1), by omega, i + 1, acc, tok, X, rfl, hi2, O2, ht, st_keep' (by simp []) (by simp [])⟩
        · have hlj : j < x.deps.length := by omega
          have q2 : (j : Int) < (x.deps.length : Int) := by omega
          have hgj : (dpOf l y)[j]? = some x.deps[j] := by rw [h2]; exact List.getElem?_eq_getElem hlj
          have hx4 : (x.deps.map Iid.av)[j]? = some (Iid.av x.deps[j]) := by simp [hlj]
          have hux := iid_uni x.deps
          generalize x.deps[j] = d at *
          have hhd := fun h => rhas_ok acc d .no (by omega) h
          obtain ⟨q6, q7, -, -⟩ := nbig (n := acc.length) (by omega)
          unfold Iid.av at hhd
          rw [show (fun x => AV.agg (Iid.c x)) = Iid.av from rfl] at hhd
          unfold Iid.c at hhd
          refine awp_seq ?_
          refine awp_seq ?_
          refine zh (by simp -implicitDefEqProofs (disch := (first | omega | (simp; done) | fail)) [if_pos, if_neg, wrap_i64, tmod_pos, tdiv_pos, Int.toNat_add, hx3, hu, qk, q2, Nod.av, Nod.c]; rfl) ?_
          refine goes_done ?_
          (try simp only [vq, if_true, reduceIte, Nat.reduceEqDiff, reduceCtorEq])
          refine awp_cond_t rfl ?_
          refine awp_skip ?_
          simp only [vq, if_true, reduceIte, Nat.reduceEqDiff, reduceCtorEq]
          refine awp_seq ?_
          refine awp_block ?_
          refine awp_seq ?_
          repeat (first | ((first | refine zd ?_ | refine zx ?_ | refine zk ?_ | refine zl ?_ | refine zr ?_); refine zq ?_) | refine zs ?_ | refine zh (by simp -implicitDefEqProofs (disch := (first | omega | (simp; done) | fail)) [if_pos, if_neg, wrap_i64, tmod_pos, tdiv_pos, Int.toNat_add, hx3, hu, qk, hx4, hux, q2, Nod.av, Nod.c, Iid.av, Iid.c]; rfl) ?_ | refine zb ?_ | refine zo ?_ | refine zt ?_ | refine zf ?_)
          refine zp (callable_of Try.func37) _ (hhd _) ?_
          rintro _ _ ⟨rfl, rfl⟩
          by_cases hm : d ∈ acc
          · have hc2 : acc.contains d = true := by simpa using hm
            rw [hc2]
            refine ze ?_
            refine goes_done ?_
            (try simp only [vq, if_true, reduceIte, Nat.reduceEqDiff, reduceCtorEq])
            repeat (first | ((first | refine zd ?_ | refine zx ?_ | refine zk ?_ | refine zl ?_ | refine zr ?_); refine zq ?_) | refine zs ?_ | refine zg ?_ | refine zb ?_ | refine zo ?_ | refine zt ?_ | refine zf ?_)
            exact ⟨x.deps.length - (j + 1), by omega, j + 1, acc, tok, X, rfl, hlj, M.old hgj hm, ht, st_keep' (by simp []) (by simp [])⟩
          · have hc2 : acc.contains d = false := by simpa using hm
            rw [hc2]
            refine ze ?_
            refine goes_done ?_
            (try simp only [vq, if_true, reduceIte, Nat.reduceEqDiff, reduceCtorEq])
            have M2 := M.new hgj hm (List.mem_of_getElem? hg) hd
            rcases ht with rfl | ⟨b, rfl, hb⟩
            · repeat (first | ((first | refine zd ?_ | refine zx ?_ | refine zk ?_ | refine zl ?_ | refine zr ?_); refine zq ?_) | refine zs ?_ | refine zh (by simp -implicitDefEqProofs (disch := (first | omega | (simp; done) | fail)) [if_pos, if_neg, wrap_i64, tmod_pos, tdiv_pos, Int.toNat_add, hx3, hu, qk, hx4, hux, hua, q2, q6, q7, Nod.av, Nod.c, Iid.av, Iid.c]; rfl) ?_ | refine zb ?_ | refine zo ?_ | refine zt ?_ | refine zf ?_)
              refine ⟨x.deps.length - (j + 1), by omega, j + 1, acc ++ [d], .own (h.length + X.length), X ++ [.tail 25 3], rfl, hlj, M2, .inr ⟨X.length, rfl, by simp⟩, st_keep' (by simp [Iid.av, Iid.c]) (by simp [Iid.av, Iid.c])⟩
            · repeat (first | ((first | refine zd ?_ | refine zx ?_ | refine zk ?_ | refine zl ?_ | refine zr ?_); refine zq ?_) | refine zs ?_ | refine zh (by simp -implicitDefEqProofs (disch := (first | omega | (simp; done) | fail)) [if_pos, if_neg, wrap_i64, tmod_pos, tdiv_pos, Int.toNat_add, hx3, hu, qk, hx4, hux, hua, q2, q6, q7, hb, Nod.av, Nod.c, Iid.av, Iid.c]; rfl) ?_ | refine zb ?_ | refine zo ?_ | refine zt ?_ | refine zf ?_)
              refine ⟨x.deps.length - (j + 1), by omega, j + 1, acc ++ [d], .own (h.length + X.length), X.set b .dead ++ [.tail 25 3], rfl, hlj, M2, .inr ⟨X.length, rfl, by simp⟩, st_keep' (by simp [Iid.av, Iid.c]) (by simp [Iid.av, Iid.c])⟩
      · exact ⟨0, out, tok, X, rfl, by omega, M0, ht, st_keep' (by simp []) (by simp [])⟩
  · exact ⟨0, cl, .own (h.length + 1), [.dead, .tail 25 3], rfl, by omega, O, .inr ⟨1, rfl, rfl⟩, st_keep' (by simp []) (by simp [])⟩
end Go.Proofs.Ytajgeofhlgoifaa.G

/- Graphs: the document's answers: Reach, Ready. -/
set_option linter.unusedVariables false
set_option linter.unusedSimpArgs false
set_option maxRecDepth 20000
set_option maxHeartbeats 2000000
namespace Go.Proofs.Ytajgeofhlgoifaa.G
open Go Go.Proofs.Ytajgeofhlgoifaa.V Go.Proofs.Ytajgeofhlgoifaa.I Go.Sort Go.RowKit
attribute [-simp] List.length_flatten List.map_flatten List.map_take List.map_drop
theorem rreach_ok (l : List Nod) (f : Iid) (t : Tok) (hs : Small l []) (h : AHeap) :
    ACalls Try.prog 19 [.list (l.map Nod.av) t, Iid.av f] h fun r h' => ∃ (rs : List Iid) (X : AHeap), r = lv rs ∧ h' = h ++ X ∧ (validB l = false → rs = []) ∧ (validB l = true → Ris rs ∧ ∀ y, y ∈ rs ↔ Lead (dpOf l) [] f y) := by
  have h14 := hs.len
  have hrv := fun h => rvalid_ok l .no (by omega) h
  show ACalls _ _ [.list (l.map Nod.av) t, .agg [iv f.e, iv f.n, iv f.o]] _ _
  refine acalls_of_awp Try.func19 rfl (by simp only [List.length_cons, List.length_nil]; decide) ?_
  simp only [params_cons, params_nil]
  refine awp_seq ?_
  refine zg ?_
  refine goes_done ?_
  (try simp only [vq, if_true, reduceIte, Nat.reduceEqDiff, reduceCtorEq])
  refine awp_hard (id := h.length) (by simp -implicitDefEqProofs; rfl) ?_
  simp -implicitDefEqProofs only [Slots.melt, AV.melt, Nat.add_left_cancel_iff, Nat.add_eq_left, Nat.left_eq_add, Nat.reduceEqDiff, reduceIte, Nat.succ_ne_self, Nat.one_ne_zero, Nat.zero_ne_one, List.set_append_right, List.set_append_left, Nat.sub_self, Nat.le_refl, Nat.add_sub_cancel_left, Nat.le_add_right, List.set_cons_zero, List.set_cons_succ]
  repeat (first | ((first | refine zd ?_ | refine zx ?_ | refine zk ?_ | refine zl ?_ | refine zr ?_); refine zq ?_) | refine zs ?_ | refine zg ?_ | refine zb ?_ | refine zo ?_ | refine zt ?_ | refine zf ?_)
  refine zp (callable_of Try.func14) _ (hrv _) ?_
  rintro _ _ ⟨rfl, rfl⟩
  rcases Bool.eq_false_or_eq_true (validB l) with hv | hv
  rotate_left
  · rw [hv]
    refine ze ?_
    repeat (first | ((first | refine zd ?_ | refine zx ?_ | refine zk ?_ | refine zl ?_ | refine zr ?_); refine zq ?_) | refine zs ?_ | refine zg ?_ | refine zb ?_ | refine zo ?_ | refine zt ?_ | refine zf ?_)
    first | refine body_all (.inr rfl) (by simp -implicitDefEqProofs; rfl) (by simp -implicitDefEqProofs; rfl) (by first | (simp; done) | (simp; omega) | omega) ?_ | refine body_all (.inl rfl) (by simp -implicitDefEqProofs; rfl) (by simp -implicitDefEqProofs; rfl) (by first | (simp; done) | (simp; omega) | omega) ?_
    exact ⟨[], _, rfl, rfl, fun _ => rfl, fun h => absurd h (by simp)⟩
  rw [hv]
  have hld := fun h => rlead_ok l f [] .no .no hs hv (by simp) h
  simp only [List.map_nil] at hld
  unfold Iid.av Iid.c at hld
  rw [show (fun x : Iid => AV.agg [iv x.e, iv x.n, iv x.o]) = Iid.av from rfl] at hld
  refine ze ?_
  refine goes_done ?_
  (try simp only [vq, if_true, reduceIte, Nat.reduceEqDiff, reduceCtorEq])
  repeat (first | ((first | refine zd ?_ | refine zx ?_ | refine zk ?_ | refine zl ?_ | refine zr ?_); refine zq ?_) | refine zs ?_ | refine zg ?_ | refine zb ?_ | refine zo ?_ | refine zt ?_ | refine zf ?_)
  refine zp (callable_of Try.func45) _ (hld _) ?_
  rintro _ _ ⟨ks, X, rfl, rfl, hn, hk⟩
  have hkl := Nat.le_trans (lead_len hn fun y hy => (hk y).1 hy) hs.sum
  have hrc := fun h => rclean_ok ks .no (by omega) h
  refine ze ?_
  refine zp (callable_of Try.func44) _ (hrc _) ?_
  rintro _ _ ⟨rfl, rfl⟩
  refine goes_eq (by simp -implicitDefEqProofs (disch := (first | omega | (simp; done) | fail)) [if_pos, if_neg, wrap_i64, tmod_pos, tdiv_pos, Int.toNat_add, lv]; rfl) ?_
  repeat (first | ((first | refine zd ?_ | refine zx ?_ | refine zk ?_ | refine zl ?_ | refine zr ?_); refine zq ?_) | refine zs ?_ | refine zg ?_ | refine zb ?_ | refine zo ?_ | refine zt ?_ | refine zf ?_)
  first | refine body_all (.inr rfl) (by simp -implicitDefEqProofs; rfl) (by simp -implicitDefEqProofs; rfl) (by first | (simp; done) | (simp; omega) | omega) ?_ | refine body_all (.inl rfl) (by simp -implicitDefEqProofs; rfl) (by simp -implicitDefEqProofs; rfl) (by first | (simp; done) | (simp; omega) | omega) ?_
  exact ⟨clean ks, _, rfl, rfl, fun h => absurd h (by simp), fun _ => ⟨clean_ris _, fun y => (clean_mem _ _).trans (hk y)⟩⟩
theorem rready_ok (l : List Nod) (dn : List Iid) (t td : Tok) (hs : Small l []) (hdn : dn.length ≤ 1000) (h : AHeap) :
    ACalls Try.prog 21 [.list (l.map Nod.av) t, .list (dn.map Iid.av) td] h fun r h' => ∃ (rs : List Iid) (X : AHeap), r = lv rs ∧ h' = h ++ X ∧ (validB l = false → rs = []) ∧ (validB l = true → Ris rs ∧ ∀ y, y ∈ rs ↔ CanDo l dn y) := by
  have h14 := hs.len
  have hu := nod_uni l
  have hrv := fun h => rvalid_ok l .no (by omega) h
  refine acalls_of_awp Try.func21 rfl (by simp only [List.length_cons, List.length_nil]; decide) ?_
  simp only [params_cons, params_nil]
  repeat (first | ((first | refine zd ?_ | refine zx ?_ | refine zk ?_ | refine zl ?_ | refine zr ?_); refine zq ?_) | refine zs ?_ | refine zg ?_ | refine zb ?_ | refine zo ?_ | refine zt ?_ | refine zf ?_)
  refine zp (callable_of Try.func14) _ (hrv _) ?_
  rintro _ h2 ⟨rfl, e⟩
  have e := e.symm
  subst e
  rcases Bool.eq_false_or_eq_true (validB l) with hv | hv
  rotate_left
  · rw [hv]
    refine ze ?_
    repeat (first | ((first | refine zd ?_ | refine zx ?_ | refine zk ?_ | refine zl ?_ | refine zr ?_); refine zq ?_) | refine zs ?_ | refine zg ?_ | refine zb ?_ | refine zo ?_ | refine zt ?_ | refine zf ?_)
    first | refine body_all (.inr rfl) (by simp -implicitDefEqProofs; rfl) (by simp -implicitDefEqProofs; rfl) (by first | (simp; done) | (simp; omega) | omega) ?_ | refine body_all (.inl rfl) (by simp -implicitDefEqProofs; rfl) (by simp -implicitDefEqProofs; rfl) (by first | (simp; done) | (simp; omega) | omega) ?_
    exact ⟨[], _, rfl, (List.append_nil h).symm, fun _ => rfl, fun h => absurd h (by simp)⟩
  rw [hv]
  refine ze ?_
  refine goes_done ?_
  (try simp only [vq, if_true, reduceIte, Nat.reduceEqDiff, reduceCtorEq])
  repeat (first | ((first | refine zd ?_ | refine zx ?_ | refine zk ?_ | refine zl ?_ | refine zr ?_); refine zq ?_) | refine zs ?_ | refine zg ?_ | refine zb ?_ | refine zo ?_ | refine zt ?_ | refine zf ?_)
  refine awp_loop (fun z st => ∃ (i : Nat) (acc : List Iid) (tok : Tok) (X : AHeap), z = l.length - i ∧ i ≤ l.length ∧ acc.length ≤ i ∧ (∀ y, y ∈ acc ↔ y ∈ (idsN l).take i ∧ CanDo l dn y) ∧ TokZ h.length X 25 3 tok ∧ st.le ⟨Try.f21.ntmps, [(0, .list (l.map Nod.av) t), (1, .list (dn.map Iid.av) td), (5, .list (acc.map Iid.av) tok), (6, iv (i : Nat))], h ++ X⟩) l.length ?_ ?_
  rotate_left
  rintro z st ⟨i, acc, tok, X, rfl, hi, hal, hm, ht, hle⟩
  · refine awp_le hle ?_
    clear hle
    by_cases h9 : i = l.length
    · subst h9
      have q : ¬ (l.length : Int) < (l.length : Int) := by omega
      have hrc := fun h => rclean_ok acc .no (by omega) h
      repeat (first | ((first | refine zd ?_ | refine zx ?_ | refine zk ?_ | refine zl ?_ | refine zr ?_); refine zq ?_) | refine zs ?_ | refine zh (by simp -implicitDefEqProofs (disch := (first | omega | (simp; done) | fail)) [if_pos, if_neg, wrap_i64, tmod_pos, tdiv_pos, Int.toNat_add, q]; rfl) ?_ | refine zb ?_ | refine zo ?_ | refine zt ?_ | refine zf ?_)
      refine zp (callable_of Try.func44) _ (hrc _) ?_
      rintro _ _ ⟨rfl, rfl⟩
      refine goes_eq (by simp -implicitDefEqProofs (disch := (first | omega | (simp; done) | fail)) [if_pos, if_neg, wrap_i64, tmod_pos, tdiv_pos, Int.toNat_add, lv]; rfl) ?_
      repeat (first | ((first | refine zd ?_ | refine zx ?_ | refine zk ?_ | refine zl ?_ | refine zr ?_); refine zq ?_) | refine zs ?_ | refine zg ?_ | refine zb ?_ | refine zo ?_ | refine zt ?_ | refine zf ?_)
      first | refine body_all (.inr rfl) (by simp -implicitDefEqProofs; rfl) (by simp -implicitDefEqProofs; rfl) (by first | (simp; done) | (simp; omega) | omega) ?_ | refine body_all (.inl rfl) (by simp -implicitDefEqProofs; rfl) (by simp -implicitDefEqProofs; rfl) (by first | (simp; done) | (simp; omega) | omega) ?_
      refine ⟨clean acc, _, rfl, rfl, fun h => absurd h (by simp), fun _ => ⟨clean_ris _, fun y => (clean_mem _ _).trans ((hm y).trans ?_)⟩⟩
      rw [List.take_of_length_le (by simp [idsN])]
      exact ⟨fun h => h.2, fun h => ⟨h.1, h⟩⟩
    · have hlt : i < l.length := by omega
      have q : (i : Int) < (l.length : Int) := by omega
      have hx2 : (l.map Nod.av)[i]? = some (Nod.av l[i]) := by simp [hlt]
      have hat := idsN_at hlt
      generalize l[i] = x at *
      have hld := fun h => rlead_ok l x.id dn .no .no hs hv hdn h
      have hhx := fun h => rhas_ok dn x.id .no (by omega) h
      unfold Iid.av at hhx hld
      rw [show (fun x => AV.agg (Iid.c x)) = Iid.av from rfl] at hhx hld
      unfold Iid.c at hhx hld
      have htk : ∀ y, y ∈ (idsN l).take (i + 1) ↔ y ∈ (idsN l).take i ∨ y = x.id := fun y => by
        rw [List.take_add_one, hat]; simp
      refine awp_seq ?_
      refine awp_seq ?_
      refine zh (by simp -implicitDefEqProofs (disch := (first | omega | (simp; done) | fail)) [if_pos, if_neg, wrap_i64, tmod_pos, tdiv_pos, Int.toNat_add, q]; rfl) ?_
      refine goes_done ?_
      (try simp only [vq, if_true, reduceIte, Nat.reduceEqDiff, reduceCtorEq])
      refine awp_cond_t rfl ?_
      refine awp_skip ?_
      simp only [vq, if_true, reduceIte, Nat.reduceEqDiff, reduceCtorEq]
      refine awp_seq ?_
      refine awp_block ?_
      refine awp_seq ?_
      repeat (first | ((first | refine zd ?_ | refine zx ?_ | refine zk ?_ | refine zl ?_ | refine zr ?_); refine zq ?_) | refine zs ?_ | refine zh (by simp -implicitDefEqProofs (disch := (first | omega | (simp; done) | fail)) [if_pos, if_neg, wrap_i64, tmod_pos, tdiv_pos, Int.toNat_add, hx2, hu, q, Nod.av, Nod.c]; rfl) ?_ | refine zb ?_ | refine zo ?_ | refine zt ?_ | refine zf ?_)
      refine zp (callable_of Try.func45) _ (hld _) ?_
      rintro _ _ ⟨ks, XL, rfl, rfl, hn, hk⟩
      have hkl := Nat.le_trans (lead_len hn fun y hy => (hk y).1 hy) hs.sum
      refine ze ?_
      refine goes_done ?_
      (try simp only [vq, if_true, reduceIte, Nat.reduceEqDiff, reduceCtorEq])
      repeat (first | ((first | refine zd ?_ | refine zx ?_ | refine zk ?_ | refine zl ?_ | refine zr ?_); refine zq ?_) | refine zs ?_ | refine zh (by simp -implicitDefEqProofs (disch := (first | omega | (simp; done) | fail)) [if_pos, if_neg, wrap_i64, tmod_pos, tdiv_pos, Int.toNat_add, hx2, hu, q, Nod.av, Nod.c]; rfl) ?_ | refine zb ?_ | refine zo ?_ | refine zt ?_ | refine zf ?_)
      refine zp (callable_of Try.func37) _ (hhx _) ?_
      rintro _ _ ⟨rfl, rfl⟩
      obtain ⟨b0, hb0⟩ : ∃ b, b = dn.contains x.id := ⟨_, rfl⟩
      have hbb : (!b0) = true ↔ x.id ∉ dn ∧ ∀ z ∈ ks.take 0, z ∈ idsN l ∨ z ∈ dn := by rw [hb0]; simp
      rw [← hb0]
      refine ze ?_
      refine goes_done ?_
      (try simp only [vq, if_true, reduceIte, Nat.reduceEqDiff, reduceCtorEq])
      generalize (!b0) = b1 at *
      clear hb0
      repeat (first | ((first | refine zd ?_ | refine zx ?_ | refine zk ?_ | refine zl ?_ | refine zr ?_); refine zq ?_) | refine zs ?_ | refine zg ?_ | refine zb ?_ | refine zo ?_ | refine zt ?_ | refine zf ?_)
      have huk := iid_uni ks
      refine awp_loop (fun z st => ∃ (j : Nat) (b : Bool) (X : AHeap), z = ks.length - j ∧ j ≤ ks.length ∧ (b = true ↔ x.id ∉ dn ∧ ∀ z ∈ ks.take j, z ∈ idsN l ∨ z ∈ dn) ∧ TokZ h.length X 25 3 tok ∧ st.le ⟨Try.f21.ntmps, [(0, .list (l.map Nod.av) t), (1, .list (dn.map Iid.av) td), (5, .list (acc.map Iid.av) tok), (6, iv (i : Nat)), (7, .list (ks.map Iid.av) .no), (8, .bool b), (9, iv (j : Nat))], h ++ X⟩) ks.length ?_ ?_
      rotate_left
      rintro z st ⟨j, b, X, rfl, hj, hb, ht, hle⟩
      · refine awp_le hle ?_
        clear hle
        by_cases h8 : j = ks.length
        · subst h8
          have q2 : ¬ (ks.length : Int) < (ks.length : Int) := by omega
          rw [List.take_length] at hb
          have hcan : b = true ↔ CanDo l dn x.id := by
            rw [hb]
            refine ⟨fun ⟨h1, h2⟩ => ⟨List.mem_of_getElem? hat, h1, fun z hz => h2 z ((hk z).2 hz)⟩, fun ⟨_, h1, h2⟩ => ⟨h1, fun z hz => h2 z ((hk z).1 hz)⟩⟩
          cases b with
          | false =>
            repeat (first | ((first | refine zd ?_ | refine zx ?_ | refine zk ?_ | refine zl ?_ | refine zr ?_); refine zq ?_) | refine zs ?_ | refine zh (by simp -implicitDefEqProofs (disch := (first | omega | (simp; done) | fail)) [if_pos, if_neg, wrap_i64, tmod_pos, tdiv_pos, Int.toNat_add, q2]; rfl) ?_ | refine zb ?_ | refine zo ?_ | refine zt ?_ | refine zf ?_)
            refine ⟨l.length - (i + 1), by omega, i + 1, acc, tok, X, rfl, hlt, by omega, fun y => ?_, ht, st_keep' (by simp []) (by simp [])⟩
            rw [hm y, htk y]
            refine ⟨fun ⟨h1, h2⟩ => ⟨.inl h1, h2⟩, fun ⟨h1, h2⟩ => ⟨h1.resolve_right fun e => ?_, h2⟩⟩
            subst e
            exact absurd (hcan.2 h2) (by simp)
          | true =>
            have hcx := hcan.1 rfl
            obtain ⟨q6, q7, -, -⟩ := nbig (n := acc.length) (by omega)
            have hua := iid_uni acc
            have hm2 : ∀ y, y ∈ acc ++ [x.id] ↔ y ∈ (idsN l).take (i + 1) ∧ CanDo l dn y := fun y => by
              rw [List.mem_append, List.mem_singleton, hm y, htk y]
              refine ⟨fun h => ?_, fun ⟨h1, h2⟩ => ?_⟩
              · rcases h with ⟨h1, h2⟩ | rfl
                · exact ⟨.inl h1, h2⟩
                · exact ⟨.inr rfl, hcx⟩
              · rcases h1 with h1 | h1
                · exact .inl ⟨h1, h2⟩
                · exact .inr h1
            rcases ht with rfl | ⟨c, rfl, hc⟩
            · repeat (first | ((first | refine zd ?_ | refine zx ?_ | refine zk ?_ | refine zl ?_ | refine zr ?_); refine zq ?_) | refine zs ?_ | refine zh (by simp -implicitDefEqProofs (disch := (first | omega | (simp; done) | fail)) [if_pos, if_neg, wrap_i64, tmod_pos, tdiv_pos, Int.toNat_add, q2, hx2, hu, q, q6, q7, hua, Nod.av, Nod.c]; rfl) ?_ | refine zb ?_ | refine zo ?_ | refine zt ?_ | refine zf ?_)
              exact ⟨l.length - (i + 1), by omega, i + 1, acc ++ [x.id], .own (h.length + X.length), X ++ [.tail 25 3], rfl, hlt, by simp; omega, hm2, .inr ⟨X.length, rfl, by simp⟩, st_keep' (by simp [Iid.av, Iid.c]) (by simp [Iid.av, Iid.c])⟩
            · repeat (first | ((first | refine zd ?_ | refine zx ?_ | refine zk ?_ | refine zl ?_ | refine zr ?_); refine zq ?_) | refine zs ?_ | refine zh (by simp -implicitDefEqProofs (disch := (first | omega | (simp; done) | fail)) [if_pos, if_neg, wrap_i64, tmod_pos, tdiv_pos, Int.toNat_add, q2, hx2, hu, q, q6, q7, hua, hc, Nod.av, Nod.c]; rfl) ?_ | refine zb ?_ | refine zo ?_ | refine zt ?_ | refine zf ?_)
              exact ⟨l.length - (i + 1), by omega, i + 1, acc ++ [x.id], .own (h.length + X.length), X.set c .dead ++ [.tail 25 3], rfl, hlt, by simp; omega, hm2, .inr ⟨X.length, rfl, by simp⟩, st_keep' (by simp [Iid.av, Iid.c]) (by simp [Iid.av, Iid.c])⟩
        · have hlj : j < ks.length := by omega
          have q2 : (j : Int) < (ks.length : Int) := by omega
          have hx4 : (ks.map Iid.av)[j]? = some (Iid.av ks[j]) := by simp [hlj]
          have htj : ∀ z, z ∈ ks.take (j + 1) ↔ z ∈ ks.take j ∨ z = ks[j] := fun z => by rw [List.take_succ_eq_append_getElem hlj, List.mem_append, List.mem_singleton]
          generalize ks[j] = d at *
          have hfd := fun h => find_ok l d .no (by omega) h
          have hhd := fun h => rhas_ok dn d .no (by omega) h
          unfold Iid.av at hhd hfd
          rw [show (fun x => AV.agg (Iid.c x)) = Iid.av from rfl] at hhd
          unfold Iid.c at hhd hfd
          refine awp_seq ?_
          refine awp_seq ?_
          refine zh (by simp -implicitDefEqProofs (disch := (first | omega | (simp; done) | fail)) [if_pos, if_neg, wrap_i64, tmod_pos, tdiv_pos, Int.toNat_add, q2]; rfl) ?_
          refine goes_done ?_
          (try simp only [vq, if_true, reduceIte, Nat.reduceEqDiff, reduceCtorEq])
          refine awp_cond_t rfl ?_
          refine awp_skip ?_
          simp only [vq, if_true, reduceIte, Nat.reduceEqDiff, reduceCtorEq]
          refine awp_seq ?_
          refine awp_block ?_
          cases b with
          | false =>
            repeat (first | ((first | refine zd ?_ | refine zx ?_ | refine zk ?_ | refine zl ?_ | refine zr ?_); refine zq ?_) | refine zs ?_ | refine zg ?_ | refine zb ?_ | refine zo ?_ | refine zt ?_ | refine zf ?_)
            refine ⟨ks.length - (j + 1), by omega, j + 1, false, X, rfl, hlj, ⟨fun h => (by cases h), fun ⟨h1, h2⟩ => hb.2 ⟨h1, fun z hz => h2 z ((htj z).2 (.inl hz))⟩⟩, ht, st_keep' (by simp []) (by simp [])⟩
          | true =>
            obtain ⟨hb1, hb2⟩ := hb.1 rfl
            repeat (first | ((first | refine zd ?_ | refine zx ?_ | refine zk ?_ | refine zl ?_ | refine zr ?_); refine zq ?_) | refine zs ?_ | refine zh (by simp -implicitDefEqProofs (disch := (first | omega | (simp; done) | fail)) [if_pos, if_neg, wrap_i64, tmod_pos, tdiv_pos, Int.toNat_add, hx4, huk, q2, Iid.av, Iid.c]; rfl) ?_ | refine zb ?_ | refine zo ?_ | refine zt ?_ | refine zf ?_)
            refine zp (callable_of Try.func39) _ (hfd _) ?_
            rintro _ _ ⟨rfl, rfl⟩
            by_cases hd : d ∈ idsN l
            · obtain ⟨n, hn, h1, -, -, -⟩ := find_in hv hd
              have q3 : (0 : Int) ≤ (n : Int) := by omega
              rw [h1]
              refine goes_eq (by simp -implicitDefEqProofs (disch := (first | omega | (simp; done) | fail)) [if_pos, if_neg, wrap_i64, tmod_pos, tdiv_pos, Int.toNat_add, q3]; rfl) ?_
              refine goes_done ?_
              (try simp only [vq, if_true, reduceIte, Nat.reduceEqDiff, reduceCtorEq])
              repeat (first | ((first | refine zd ?_ | refine zx ?_ | refine zk ?_ | refine zl ?_ | refine zr ?_); refine zq ?_) | refine zs ?_ | refine zg ?_ | refine zb ?_ | refine zo ?_ | refine zt ?_ | refine zf ?_)
              refine ⟨ks.length - (j + 1), by omega, j + 1, true, X, rfl, hlj, ⟨fun _ => ⟨hb1, fun z hz => ?_⟩, fun _ => rfl⟩, ht, st_keep' (by simp []) (by simp [])⟩
              rcases (htj z).1 hz with h | rfl
              · exact hb2 z h
              · exact .inl hd
            · obtain ⟨h1, -⟩ := find_out hd
              rw [h1]
              refine goes_eq (by simp -implicitDefEqProofs (disch := (first | omega | (simp; done) | fail)) [if_pos, if_neg, wrap_i64, tmod_pos, tdiv_pos, Int.toNat_add, hx4, huk, q2, Iid.av, Iid.c]; rfl) ?_
              refine zp (callable_of Try.func37) _ (hhd _) ?_
              rintro _ _ ⟨rfl, rfl⟩
              obtain ⟨b2, hb3⟩ : ∃ b, b = dn.contains d := ⟨_, rfl⟩
              have hb4 : b2 = true ↔ d ∈ dn := by rw [hb3]; simp
              rw [← hb3]
              refine ze ?_
              refine goes_done ?_
              (try simp only [vq, if_true, reduceIte, Nat.reduceEqDiff, reduceCtorEq])
              repeat (first | ((first | refine zd ?_ | refine zx ?_ | refine zk ?_ | refine zl ?_ | refine zr ?_); refine zq ?_) | refine zs ?_ | refine zg ?_ | refine zb ?_ | refine zo ?_ | refine zt ?_ | refine zf ?_)
              refine ⟨ks.length - (j + 1), by omega, j + 1, b2, X, rfl, hlj, ⟨fun h => ⟨hb1, fun z hz => ?_⟩, fun ⟨_, h2⟩ => hb4.2 ((h2 d ((htj d).2 (.inr rfl))).resolve_left hd)⟩, ht, st_keep' (by simp []) (by simp [])⟩
              rcases (htj z).1 hz with h5 | rfl
              · exact hb2 z h5
              · exact .inr (hb4.1 h)
      · exact ⟨0, b1, X ++ XL, rfl, by omega, hbb, ht.app _, st_keep' (by simp []) (by simp [])⟩
  · exact ⟨0, [], .full, [], rfl, by omega, by simp, by simp, .inl rfl, st_keep' (by simp []) (by simp [])⟩
end Go.Proofs.Ytajgeofhlgoifaa.G

/- Graphs: the document's answer: those that lead to each other. -/
set_option linter.unusedVariables false
set_option linter.unusedSimpArgs false
set_option maxRecDepth 20000
set_option maxHeartbeats 2000000
namespace Go.Proofs.Ytajgeofhlgoifaa.G
open Go Go.Proofs.Ytajgeofhlgoifaa.V Go.Proofs.Ytajgeofhlgoifaa.I Go.Sort Go.RowKit
attribute [-simp] List.length_flatten List.map_flatten List.map_take List.map_drop
theorem lead_transD {dp : Iid → List Iid} {dn : List Iid} {x y z : Iid} (h1 : Lead dp dn x y) (hy : y ∉ dn) (h2 : Lead dp dn y z) : Lead dp dn x z := by
  induction h2 with
  | first h => exact .next h1 hy h
  | next _ hd h ih => exact .next ih hd h
theorem rt_leadD {dp : Iid → List Iid} {dn : List Iid} {x y : Iid} (h : Tar.Rt dp (dnB dn) x y) : x = y ∨ (Lead dp dn x y ∧ y ∉ dn) := by
  induction h with
  | refl => exact .inl rfl
  | step s _ ih =>
    have hy := s.2
    simp only [dnB, decide_eq_false_iff_not] at hy
    rcases ih with rfl | ⟨ih, hz⟩
    · exact .inr ⟨.first s.1, hy⟩
    · exact .inr ⟨lead_transD (.first s.1) hy ih, hz⟩
theorem lead_rtD {dp : Iid → List Iid} {dn : List Iid} {x y : Iid} (h : Lead dp dn x y) : y ∉ dn → Tar.Rt dp (dnB dn) x y := by
  induction h with
  | first h => exact fun hy => .one ⟨h, by simp [dnB, hy]⟩
  | next _ hd h ih => exact fun hy => (ih hd).trans (.one ⟨h, by simp [dnB, hy]⟩)
theorem grp_iff {dp : Iid → List Iid} {dn : List Iid} {x y : Iid} (hx : x ∉ dn) : (y = x ∨ (Lead dp dn x y ∧ y ∉ dn ∧ Lead dp dn y x)) ↔ Tar.Rt dp (dnB dn) x y ∧ Tar.Rt dp (dnB dn) y x := by
  constructor
  · rintro (rfl | ⟨h1, h2, h3⟩)
    · exact ⟨.refl _, .refl _⟩
    · exact ⟨lead_rtD h1 h2, lead_rtD h3 hx⟩
  · rintro ⟨h1, h2⟩
    rcases rt_leadD h1 with e | ⟨h3, h4⟩
    · exact .inl e.symm
    · rcases rt_leadD h2 with e | ⟨h5, _⟩
      · exact .inl e
      · exact .inr ⟨h3, h4, h5⟩
theorem rgroup_ok (l : List Nod) (x : Iid) (dn : List Iid) (t td : Tok) (hs : Small l []) (hv : validB l = true) (hdn : dn.length ≤ 1000) (hx : x ∉ dn) (h : AHeap) :
    ACalls Try.prog 38 [.list (l.map Nod.av) t, Iid.av x, .list (dn.map Iid.av) td] h fun r h' => ∃ (g : List Iid) (X : AHeap), r = .list (g.map Iid.av) .no ∧ h' = h ++ X ∧ g.Nodup ∧ (∀ y, y ∈ g ↔ Tar.Rt (dpOf l) (dnB dn) x y ∧ Tar.Rt (dpOf l) (dnB dn) y x) ∧ g.length ≤ 1000 := by
  have h14 := hs.len
  have hld := fun h => rlead_ok l x dn .no .no hs hv hdn h
  unfold Iid.av at hld
  rw [show (fun x => AV.agg (Iid.c x)) = Iid.av from rfl] at hld
  unfold Iid.c at hld
  show ACalls _ _ [.list (l.map Nod.av) t, .agg [iv x.e, iv x.n, iv x.o], .list (dn.map Iid.av) td] _ _
  refine acalls_of_awp Try.func38 rfl (by simp only [List.length_cons, List.length_nil]; decide) ?_
  simp only [params_cons, params_nil]
  refine awp_seq ?_
  refine zg ?_
  refine goes_done ?_
  (try simp only [vq, if_true, reduceIte, Nat.reduceEqDiff, reduceCtorEq])
  refine awp_hard (id := h.length) (by simp -implicitDefEqProofs; rfl) ?_
  simp -implicitDefEqProofs only [Slots.melt, AV.melt, Nat.add_left_cancel_iff, Nat.add_eq_left, Nat.left_eq_add, Nat.reduceEqDiff, reduceIte, Nat.succ_ne_self, Nat.one_ne_zero, Nat.zero_ne_one, List.set_append_right, List.set_append_left, Nat.sub_self, Nat.le_refl, Nat.add_sub_cancel_left, Nat.le_add_right, List.set_cons_zero, List.set_cons_succ]
  refine awp_seq ?_
  refine zg ?_
  refine goes_done ?_
  (try simp only [vq, if_true, reduceIte, Nat.reduceEqDiff, reduceCtorEq])
  repeat (first | ((first | refine zd ?_ | refine zx ?_ | refine zk ?_ | refine zl ?_ | refine zr ?_); refine zq ?_) | refine zs ?_ | refine zg ?_ | refine zb ?_ | refine zo ?_ | refine zt ?_ | refine zf ?_)
  refine zp (callable_of Try.func45) _ (hld _) ?_
  rintro _ _ ⟨ks, X, rfl, rfl, hn, hk⟩
  have hkl := Nat.le_trans (lead_len hn fun y hy => (hk y).1 hy) hs.sum
  have huk := iid_uni ks
  refine ze ?_
  refine goes_done ?_
  (try simp only [vq, if_true, reduceIte, Nat.reduceEqDiff, reduceCtorEq])
  repeat (first | ((first | refine zd ?_ | refine zx ?_ | refine zk ?_ | refine zl ?_ | refine zr ?_); refine zq ?_) | refine zs ?_ | refine zg ?_ | refine zb ?_ | refine zo ?_ | refine zt ?_ | refine zf ?_)
  refine awp_loop (fun z st => ∃ (i : Nat) (acc : List Iid) (tok : Tok) (X : AHeap), z = ks.length - i ∧ i ≤ ks.length ∧ acc.length ≤ i + 1 ∧ acc.Nodup ∧ (∀ y, y ∈ acc ↔ y = x ∨ (y ∈ ks.take i ∧ y ≠ x ∧ y ∉ dn ∧ Lead (dpOf l) dn y x)) ∧ TokZ h.length X 25 3 tok ∧ st.le ⟨Try.f38.ntmps, [(0, .list (l.map Nod.av) t), (2, .list (dn.map Iid.av) td), (4, .ref [iv x.e, iv x.n, iv x.o] 0), (7, .list (acc.map Iid.av) tok), (8, .list (ks.map Iid.av) .no), (9, iv (i : Nat))], h ++ X⟩) ks.length ?_ ?_
  rotate_left
  rintro z st ⟨i, acc, tok, X, rfl, hi, hal, hnd, hm, ht, hle⟩
  · refine awp_le hle ?_
    clear hle
    by_cases h9 : i = ks.length
    · subst h9
      have q : ¬ (ks.length : Int) < (ks.length : Int) := by omega
      rw [List.take_length] at hm
      repeat (first | ((first | refine zd ?_ | refine zx ?_ | refine zk ?_ | refine zl ?_ | refine zr ?_); refine zq ?_) | refine zs ?_ | refine zh (by simp -implicitDefEqProofs (disch := (first | omega | (simp; done) | fail)) [if_pos, if_neg, wrap_i64, tmod_pos, tdiv_pos, Int.toNat_add, q]; rfl) ?_ | refine zb ?_ | refine zo ?_ | refine zt ?_ | refine zf ?_)
      first | refine body_all (.inr rfl) (by simp -implicitDefEqProofs; rfl) (by simp -implicitDefEqProofs; rfl) (by first | (simp; done) | (simp; omega) | omega) ?_ | refine body_all (.inl rfl) (by simp -implicitDefEqProofs; rfl) (by simp -implicitDefEqProofs; rfl) (by first | (simp; done) | (simp; omega) | omega) ?_
      refine ⟨acc, _, rfl, rfl, hnd, fun y => ?_, by omega⟩
      rw [hm y, ← grp_iff hx, hk y]
      by_cases e : y = x
      · simp [e]
      · simp [e]
    · have hlt : i < ks.length := by omega
      have q : (i : Int) < (ks.length : Int) := by omega
      have hx2 : (ks.map Iid.av)[i]? = some (Iid.av ks[i]) := by simp [hlt]
      have htk : ∀ z, z ∈ ks.take (i + 1) ↔ z ∈ ks.take i ∨ z = ks[i] := fun z => by rw [List.take_succ_eq_append_getElem hlt, List.mem_append, List.mem_singleton]
      have hnt : ks[i] ∉ ks.take i := fun hm => by
        obtain ⟨j, hj, e⟩ := List.mem_take_iff_getElem.1 hm
        have := nd_inj hn (by omega) hlt e
        omega
      have hne := eqb0 ks[i] x
      generalize ks[i] = y at *
      have hhy := fun h => rhas_ok dn y .no (by omega) h
      have hly := fun h => rlead_ok l y dn .no .no hs hv hdn h
      unfold Iid.av at hhy hly
      rw [show (fun x => AV.agg (Iid.c x)) = Iid.av from rfl] at hhy hly
      unfold Iid.c at hhy hly
      refine awp_seq ?_
      refine awp_seq ?_
      refine zh (by simp -implicitDefEqProofs (disch := (first | omega | (simp; done) | fail)) [if_pos, if_neg, wrap_i64, tmod_pos, tdiv_pos, Int.toNat_add, q]; rfl) ?_
      refine goes_done ?_
      (try simp only [vq, if_true, reduceIte, Nat.reduceEqDiff, reduceCtorEq])
      refine awp_cond_t rfl ?_
      refine awp_skip ?_
      simp only [vq, if_true, reduceIte, Nat.reduceEqDiff, reduceCtorEq]
      refine awp_seq ?_
      refine awp_block ?_
      refine awp_seq ?_
      refine awp_seq ?_
      by_cases hyx : y = x
      · rw [decide_eq_true hyx] at hne
        refine awp_draw (.q 0 (.q 1 (.q 2 (.q 3 (.q 4 (.q 5 (.q 6 (.q 7 (.q 8 (.q 9 (.q 10 (.q 11 (.a 12 (.q 13 (.done))))))))))))))) (by kernel_rfl) (by kernel_rfl) (tree_start (goesT_eq (by simp -implicitDefEqProofs (disch := (first | omega | (simp; done) | fail)) [if_pos, if_neg, wrap_i64, tmod_pos, tdiv_pos, Int.toNat_add, hx2, huk, q, hne, Iid.av, Iid.c]; rfl) ?_))
        refine goesT_done ?_
        (try simp only [vq, if_true, reduceIte, Nat.reduceEqDiff, reduceCtorEq])
        repeat (first | ((first | refine zd ?_ | refine zx ?_ | refine zk ?_ | refine zl ?_ | refine zr ?_); refine zq ?_) | refine zs ?_ | refine zg ?_ | refine zb ?_ | refine zo ?_ | refine zt ?_ | refine zf ?_)
        refine ⟨ks.length - (i + 1), by omega, i + 1, acc, tok, X, rfl, hlt, by omega, hnd, fun z => ?_, ht, st_keep' (by simp []) (by simp [])⟩
        rw [hm z, htk z]
        by_cases e : z = x
        · simp [e]
        · have : z ≠ y := fun e2 => e (e2.trans hyx)
          simp [e, this]
      rw [decide_eq_false hyx] at hne
      refine awp_draw (.q 0 (.q 1 (.q 2 (.q 3 (.q 4 (.q 5 (.q 6 (.q 7 (.q 8 (.q 9 (.q 10 (.q 11 (.a 12 (.q 13 (.done))))))))))))))) (by kernel_rfl) (by kernel_rfl) (tree_start (goesT_eq (by simp -implicitDefEqProofs (disch := (first | omega | (simp; done) | fail)) [if_pos, if_neg, wrap_i64, tmod_pos, tdiv_pos, Int.toNat_add, hx2, huk, q, hne, Iid.av, Iid.c]; rfl) ?_))
      refine zP (callable_of Try.func37) _ (hhy _) ?_
      rintro _ _ ⟨rfl, rfl⟩
      by_cases hd : y ∈ dn
      · have hc : dn.contains y = true := by simpa using hd
        rw [hc]
        refine zE ?_
        refine goesT_done ?_
        (try simp only [vq, if_true, reduceIte, Nat.reduceEqDiff, reduceCtorEq])
        repeat (first | ((first | refine zd ?_ | refine zx ?_ | refine zk ?_ | refine zl ?_ | refine zr ?_); refine zq ?_) | refine zs ?_ | refine zg ?_ | refine zb ?_ | refine zo ?_ | refine zt ?_ | refine zf ?_)
        refine ⟨ks.length - (i + 1), by omega, i + 1, acc, tok, X, rfl, hlt, by omega, hnd, fun z => ?_, ht, st_keep' (by simp []) (by simp [])⟩
        rw [hm z, htk z]
        by_cases e : z = y
        · simp [e, hd, hnt]
        · simp [e]
      have hc : dn.contains y = false := by simpa using hd
      rw [hc]
      refine zE ?_
      refine goesT_done ?_
      (try simp only [vq, if_true, reduceIte, Nat.reduceEqDiff, reduceCtorEq])
      refine awp_cond_f rfl ?_
      refine awp_skip ?_
      simp only [vq, if_true, reduceIte, Nat.reduceEqDiff, reduceCtorEq]
      refine awp_seq ?_
      refine awp_draw (.q 0 (.q 1 (.q 2 (.q 3 (.q 4 (.q 5 (.q 7 (.a 6 (.a 8 (.done)))))))))) (by kernel_rfl) (by kernel_rfl) (tree_start (goesT_eq (by simp -implicitDefEqProofs (disch := (first | omega | (simp; done) | fail)) [if_pos, if_neg, wrap_i64, tmod_pos, tdiv_pos, Int.toNat_add, hx2, huk, q, Iid.av, Iid.c]; rfl) ?_))
      refine zP (callable_of Try.func45) _ (hly _) ?_
      rintro _ _ ⟨k2, X2, rfl, rfl, hn2, hk2⟩
      have hkl2 := Nat.le_trans (lead_len hn2 fun y hy => (hk2 y).1 hy) hs.sum
      have hhk := fun h => rhas_ok k2 x .no (by omega) h
      unfold Iid.av at hhk
      rw [show (fun x => AV.agg (Iid.c x)) = Iid.av from rfl] at hhk
      unfold Iid.c at hhk
      refine zE ?_
      refine zP (callable_of Try.func37) _ (hhk _) ?_
      rintro _ _ ⟨rfl, rfl⟩
      by_cases hb : x ∈ k2
      · have hc2 : k2.contains x = true := by simpa using hb
        rw [hc2]
        refine zE ?_
        refine goesT_done ?_
        (try simp only [vq, if_true, reduceIte, Nat.reduceEqDiff, reduceCtorEq])
        have hly2 : Lead (dpOf l) dn y x := (hk2 x).1 hb
        have hya : y ∉ acc := fun h => by
          rcases (hm y).1 h with e | ⟨h1, _⟩
          · exact hyx e
          · exact hnt h1
        obtain ⟨q6, q7, -, -⟩ := nbig (n := acc.length) (by omega)
        have hua := iid_uni acc
        have hnd2 : (acc ++ [y]).Nodup := by rw [List.nodup_append]; exact ⟨hnd, by simp, fun a ha b hb e => by simp at hb; subst hb; subst e; exact hya ha⟩
        have hm2 : ∀ z, z ∈ acc ++ [y] ↔ z = x ∨ (z ∈ ks.take (i + 1) ∧ z ≠ x ∧ z ∉ dn ∧ Lead (dpOf l) dn z x) := fun z => by
          rw [List.mem_append, List.mem_singleton, hm z, htk z]
          by_cases e : z = y
          · subst e; simp [hyx, hd, hly2]
          · simp [e]
        rcases ht.app X2 with rfl | ⟨c, rfl, hcc⟩
        · repeat (first | ((first | refine zd ?_ | refine zx ?_ | refine zk ?_ | refine zl ?_ | refine zr ?_); refine zq ?_) | refine zs ?_ | refine zh (by simp -implicitDefEqProofs (disch := (first | omega | (simp; done) | fail)) [if_pos, if_neg, wrap_i64, tmod_pos, tdiv_pos, Int.toNat_add, hx2, huk, q, q6, q7, hua, Iid.av, Iid.c]; rfl) ?_ | refine zb ?_ | refine zo ?_ | refine zt ?_ | refine zf ?_)
          exact ⟨ks.length - (i + 1), by omega, i + 1, acc ++ [y], .own (h.length + (X.length + X2.length)), X ++ X2 ++ [.tail 25 3], rfl, hlt, by simp; omega, hnd2, hm2, .inr ⟨X.length + X2.length, rfl, by simp⟩, st_keep' (by simp [Iid.av, Iid.c]) (by simp [Iid.av, Iid.c])⟩
        · generalize X ++ X2 = X3 at *
          repeat (first | ((first | refine zd ?_ | refine zx ?_ | refine zk ?_ | refine zl ?_ | refine zr ?_); refine zq ?_) | refine zs ?_ | refine zh (by simp -implicitDefEqProofs (disch := (first | omega | (simp; done) | fail)) [if_pos, if_neg, wrap_i64, tmod_pos, tdiv_pos, Int.toNat_add, hx2, huk, q, q6, q7, hua, hcc, Iid.av, Iid.c]; rfl) ?_ | refine zb ?_ | refine zo ?_ | refine zt ?_ | refine zf ?_)
          exact ⟨ks.length - (i + 1), by omega, i + 1, acc ++ [y], .own (h.length + X3.length), X3.set c .dead ++ [.tail 25 3], rfl, hlt, by simp; omega, hnd2, hm2, .inr ⟨X3.length, rfl, by simp⟩, st_keep' (by simp [Iid.av, Iid.c]) (by simp [Iid.av, Iid.c])⟩
      · have hc2 : k2.contains x = false := by simpa using hb
        have hnl : ¬ Lead (dpOf l) dn y x := fun h => hb ((hk2 x).2 h)
        rw [hc2]
        refine zE ?_
        refine goesT_done ?_
        (try simp only [vq, if_true, reduceIte, Nat.reduceEqDiff, reduceCtorEq])
        repeat (first | ((first | refine zd ?_ | refine zx ?_ | refine zk ?_ | refine zl ?_ | refine zr ?_); refine zq ?_) | refine zs ?_ | refine zg ?_ | refine zb ?_ | refine zo ?_ | refine zt ?_ | refine zf ?_)
        refine ⟨ks.length - (i + 1), by omega, i + 1, acc, tok, X ++ X2, rfl, hlt, by omega, hnd, fun z => ?_, ht.app _, st_keep' (by simp []) (by simp [])⟩
        rw [hm z, htk z]
        by_cases e : z = y
        · subst e; simp [hnt, hyx, hnl]
        · simp [e]
  · exact ⟨0, [x], .full, .dead :: X, rfl, by omega, by simp, by simp, by simp, .inl rfl, st_keep' (by simp [Iid.av, Iid.c]) (by simp [Iid.av, Iid.c])⟩
end Go.Proofs.Ytajgeofhlgoifaa.G

/- Graphs: the document's answer: a group in its order. -/
set_option linter.unusedVariables false
set_option linter.unusedSimpArgs false
set_option maxRecDepth 20000
set_option maxHeartbeats 2000000
namespace Go.Proofs.Ytajgeofhlgoifaa.G
open Go Go.Proofs.Ytajgeofhlgoifaa.V Go.Proofs.Ytajgeofhlgoifaa.I Go.Sort Go.RowKit
attribute [-simp] List.length_flatten List.map_flatten List.map_take List.map_drop
/-- What is out, and what is left. -/
structure SInv (l : List Nod) (g out left : List Iid) : Prop where
  mem : ∀ y, y ∈ g ↔ y ∈ out ∨ y ∈ left
  nd : left.Nodup
  srt : out.Pairwise fun a b => keyC l a b = true
  lt : ∀ a ∈ out, ∀ b ∈ left, keyC l a b = true
  len : out.length + left.length ≤ g.length
section
variable {l : List Nod} {g out left : List Iid} {m : Iid}
theorem sub_one (y : Iid) : y ∈ clean (sub left [m]) ↔ y ∈ left ∧ y ≠ m := by
  rw [clean_mem]; simp [sub]
theorem sub_one_len (h : m ∈ left) : (clean (sub left [m])).length < left.length :=
  Nat.lt_of_le_of_lt (clean_len _) (by
    unfold sub
    rw [List.length_filter_lt_length_iff_exists]
    exact ⟨m, h, by simp⟩)
theorem SInv.start (hn : g.Nodup) : SInv l g [] g := ⟨by simp, hn, .nil, by simp, by simp⟩
theorem SInv.step (I : SInv l g out left) (hm : m ∈ left) (hl : ∀ y ∈ left, y ≠ m → keyC l m y = true) : SInv l g (out ++ [m]) (clean (sub left [m])) :=
  ⟨fun y => by
    rw [I.mem y, sub_one, List.mem_append, List.mem_singleton]
    by_cases e : y = m
    · subst e; simp [hm]
    · simp [e], ris_nodup0 (clean_ris _), by
    rw [List.pairwise_append]
    exact ⟨I.srt, by simp, fun a ha b hb => by simp at hb; subst hb; exact I.lt a ha b hm⟩, fun a ha b hb => by
    obtain ⟨h1, h2⟩ := (sub_one b).1 hb
    rcases List.mem_append.1 ha with h | h
    · exact I.lt a h b h1
    · simp at h; subst h; exact hl b h1 h2, by
    have := sub_one_len hm
    have := I.len
    rw [List.length_append, List.length_singleton]; omega⟩
/-- The place of the least so far. -/
structure Best (l : List Nod) (left : List Iid) (i a : Nat) : Prop where
  lt : a < i
  le : ∀ j y m, j < i → left[j]? = some y → left[a]? = some m → keyC l y m = false
theorem keyC_irr (l : List Nod) (x : Iid) : keyC l x x = false := (keyC_ok l).irr x
theorem Best.start : Best l left 1 0 := ⟨by omega, fun j y m hj hy hm => by
  have : j = 0 := by omega
  subst this
  rw [hy] at hm; cases hm
  exact keyC_irr l y⟩
theorem Best.keep {i a : Nat} {x m : Iid} (B : Best l left i a) (hx : left[i]? = some x) (hm : left[a]? = some m) (h : keyC l x m = false) : Best l left (i + 1) a :=
  ⟨by have := B.lt; omega, fun j y m2 hj hy hm2 => by
    by_cases e : j = i
    · subst e
      rw [hx] at hy; cases hy
      rw [hm] at hm2; cases hm2
      exact h
    · exact B.le j y m2 (by omega) hy hm2⟩
theorem Best.new {i a : Nat} {x m : Iid} (B : Best l left i a) (hx : left[i]? = some x) (hm : left[a]? = some m) (h : keyC l x m = true) : Best l left (i + 1) i :=
  ⟨by omega, fun j y m2 hj hy hm2 => by
    rw [hx] at hm2; cases hm2
    by_cases e : j = i
    · subst e
      rw [hx] at hy; cases hy
      exact keyC_irr l x
    · have h1 := B.le j y m (by omega) hy hm
      cases h2 : keyC l y x with
      | false => rfl
      | true => rw [(keyC_ok l).tr y x m h2 h] at h1; cases h1⟩
theorem Best.fin {a : Nat} {m : Iid} (B : Best l left left.length a) (hm : left[a]? = some m) (y : Iid) (hy : y ∈ left) (hne : y ≠ m) : keyC l m y = true := by
  obtain ⟨j, hj, e⟩ := List.getElem_of_mem hy
  have h1 := B.le j y m hj (by rw [List.getElem?_eq_getElem hj, e]) hm
  cases h2 : keyC l m y with
  | true => rfl
  | false => exact absurd ((keyC_ok l).tot y m h1 h2) hne
end
theorem rsorted_ok (l : List Nod) (g : List Iid) (t tg : Tok) (hs : Small l []) (hv : validB l = true) (hg : ∀ y ∈ g, y ∈ idsN l) (hn : g.Nodup) (hgl : g.length ≤ 1000) (h : AHeap) :
    ACalls Try.prog 40 [.list (l.map Nod.av) t, .list (g.map Iid.av) tg] h fun r h' => ∃ (s : List Iid) (X : AHeap), r = lv s ∧ h' = h ++ X ∧ (s.Pairwise fun a b => keyC l a b = true) ∧ ∀ y, y ∈ s ↔ y ∈ g := by
  have h14 := hs.len
  have hu := nod_uni l
  obtain ⟨q1, q2⟩ := nbig2 (n := g.length) (by omega)
  have hug := av_onesL g
  have hgu := iid_uni g
  have hfd := fun y h => find_ok l y .no (by omega) h
  have S0 := SInv.start (l := l) hn
  unfold Iid.av Iid.c at hfd
  refine acalls_of_awp Try.func40 rfl (by simp only [List.length_cons, List.length_nil]; decide) ?_
  simp only [params_cons, params_nil]
  repeat (first | ((first | refine zd ?_ | refine zx ?_ | refine zk ?_ | refine zl ?_ | refine zr ?_); refine zq ?_) | refine zs ?_ | refine zh (by simp -implicitDefEqProofs (disch := (first | omega | (simp; done) | fail)) [if_pos, if_neg, wrap_i64, tmod_pos, tdiv_pos, Int.toNat_add, hug, hgu, q1, q2]; rfl) ?_ | refine zb ?_ | refine zo ?_ | refine zt ?_ | refine zf ?_)
  refine awp_loop (fun z st => ∃ (out left : List Iid) (tok tk : Tok) (X : AHeap), z = left.length ∧ SInv l g out left ∧ TokZ h.length X 25 3 tok ∧ st.le ⟨Try.f40.ntmps, [(0, .list (l.map Nod.av) t), (5, .list (out.map Iid.av) tok), (6, .list (left.map Iid.av) tk)], h ++ X⟩) g.length ?_ ?_
  rotate_left
  rintro z st ⟨out, left, tok, tk, X, rfl, S, ht, hle⟩
  · refine awp_le hle ?_
    clear hle
    have hsl := S.len
    by_cases h9 : left.length = 0
    · have h0 : left = [] := List.length_eq_zero_iff.1 h9
      have q : True := trivial
      subst h0
      repeat (first | ((first | refine zd ?_ | refine zx ?_ | refine zk ?_ | refine zl ?_ | refine zr ?_); refine zq ?_) | refine zs ?_ | refine zh (by simp -implicitDefEqProofs (disch := (first | omega | (simp; done) | fail)) [if_pos, if_neg, wrap_i64, tmod_pos, tdiv_pos, Int.toNat_add, q]; rfl) ?_ | refine zb ?_ | refine zo ?_ | refine zt ?_ | refine zf ?_)
      first | refine body_all (.inr rfl) (by simp -implicitDefEqProofs; rfl) (by simp -implicitDefEqProofs; rfl) (by first | (simp; done) | (simp; omega) | omega) ?_ | refine body_all (.inl rfl) (by simp -implicitDefEqProofs; rfl) (by simp -implicitDefEqProofs; rfl) (by first | (simp; done) | (simp; omega) | omega) ?_
      exact ⟨out, _, rfl, rfl, S.srt, fun y => by rw [S.mem y]; simp⟩
    · have q : 0 < left.length := by omega
      have hul := iid_uni left
      have hil : ∀ y ∈ left, y ∈ idsN l := fun y hy => hg y ((S.mem y).2 (.inr hy))
      refine awp_seq ?_
      refine awp_seq ?_
      refine zh (by simp -implicitDefEqProofs (disch := (first | omega | (simp; done) | fail)) [if_pos, if_neg, wrap_i64, tmod_pos, tdiv_pos, Int.toNat_add, q]; rfl) ?_
      refine goes_done ?_
      (try simp only [vq, if_true, reduceIte, Nat.reduceEqDiff, reduceCtorEq])
      refine awp_cond_t rfl ?_
      refine awp_skip ?_
      simp only [vq, if_true, reduceIte, Nat.reduceEqDiff, reduceCtorEq]
      refine awp_block ?_
      refine awp_seq ?_
      repeat (first | ((first | refine zd ?_ | refine zx ?_ | refine zk ?_ | refine zl ?_ | refine zr ?_); refine zq ?_) | refine zs ?_ | refine zg ?_ | refine zb ?_ | refine zo ?_ | refine zt ?_ | refine zf ?_)
      refine awp_loop (fun z st => ∃ (a i : Nat), z = left.length - i ∧ i ≤ left.length ∧ Best l left i a ∧ st.le ⟨Try.f40.ntmps, [(0, .list (l.map Nod.av) t), (5, .list (out.map Iid.av) tok), (6, .list (left.map Iid.av) tk), (7, iv (a : Nat)), (8, iv (i : Nat))], h ++ X⟩) (left.length - 1) ?_ ?_
      rotate_left
      rintro z st ⟨a, i, rfl, hi, B, hle⟩
      · refine awp_le hle ?_
        clear hle
        have hai := B.lt
        have hal : a < left.length := by omega
        have qa : (a : Int) < (left.length : Int) := by omega
        have hxa : (left.map Iid.av)[a]? = some (Iid.av left[a]) := by simp [hal]
        have hga : left[a]? = some left[a] := List.getElem?_eq_getElem hal
        by_cases h8 : i = left.length
        · subst h8
          have q3 : ¬ (left.length : Int) < (left.length : Int) := by omega
          have hbest := B.fin hga
          have hma : left[a] ∈ left := List.getElem_mem hal
          generalize left[a] = m at *
          have S2 := S.step hma hbest
          have hlt := sub_one_len hma
          have hl2 := fun h => rless2_ok left [m] .no .no (by omega) (by simp) h
          obtain ⟨q6, q7, -, -⟩ := nbig (n := out.length) (by omega)
          have huo := iid_uni out
          simp only [List.map_cons, List.map_nil] at hl2
          unfold Iid.av at hl2
          rw [show (fun x => AV.agg (Iid.c x)) = Iid.av from rfl] at hl2
          unfold Iid.c at hl2
          rcases ht with rfl | ⟨c, rfl, hcc⟩
          · repeat (first | ((first | refine zd ?_ | refine zx ?_ | refine zk ?_ | refine zl ?_ | refine zr ?_); refine zq ?_) | refine zs ?_ | refine zh (by simp -implicitDefEqProofs (disch := (first | omega | (simp; done) | fail)) [if_pos, if_neg, wrap_i64, tmod_pos, tdiv_pos, Int.toNat_add, q3, hxa, hul, qa, huo, q6, q7, Iid.av, Iid.c]; rfl) ?_ | refine zb ?_ | refine zo ?_ | refine zt ?_ | refine zf ?_)
            refine zp (callable_of Try.func59) _ (hl2 _) ?_
            rintro _ _ ⟨rfl, rfl⟩
            refine goes_eq (by simp -implicitDefEqProofs (disch := (first | omega | (simp; done) | fail)) [if_pos, if_neg, wrap_i64, tmod_pos, tdiv_pos, Int.toNat_add, lv]; rfl) ?_
            refine goes_done ?_
            (try simp only [vq, if_true, reduceIte, Nat.reduceEqDiff, reduceCtorEq])
            repeat (first | ((first | refine zd ?_ | refine zx ?_ | refine zk ?_ | refine zl ?_ | refine zr ?_); refine zq ?_) | refine zs ?_ | refine zg ?_ | refine zb ?_ | refine zo ?_ | refine zt ?_ | refine zf ?_)
            exact ⟨(clean (sub left [m])).length, hlt, out ++ [m], clean (sub left [m]), .own (h.length + X.length), .no, X ++ [.tail 25 3], rfl, S2, .inr ⟨X.length, rfl, by simp⟩, st_keep' (by simp [Iid.av, Iid.c]) (by simp [Iid.av, Iid.c])⟩
          · repeat (first | ((first | refine zd ?_ | refine zx ?_ | refine zk ?_ | refine zl ?_ | refine zr ?_); refine zq ?_) | refine zs ?_ | refine zh (by simp -implicitDefEqProofs (disch := (first | omega | (simp; done) | fail)) [if_pos, if_neg, wrap_i64, tmod_pos, tdiv_pos, Int.toNat_add, q3, hxa, hul, qa, huo, q6, q7, hcc, Iid.av, Iid.c]; rfl) ?_ | refine zb ?_ | refine zo ?_ | refine zt ?_ | refine zf ?_)
            refine zp (callable_of Try.func59) _ (hl2 _) ?_
            rintro _ _ ⟨rfl, rfl⟩
            refine goes_eq (by simp -implicitDefEqProofs (disch := (first | omega | (simp; done) | fail)) [if_pos, if_neg, wrap_i64, tmod_pos, tdiv_pos, Int.toNat_add, lv]; rfl) ?_
            refine goes_done ?_
            (try simp only [vq, if_true, reduceIte, Nat.reduceEqDiff, reduceCtorEq])
            repeat (first | ((first | refine zd ?_ | refine zx ?_ | refine zk ?_ | refine zl ?_ | refine zr ?_); refine zq ?_) | refine zs ?_ | refine zg ?_ | refine zb ?_ | refine zo ?_ | refine zt ?_ | refine zf ?_)
            exact ⟨(clean (sub left [m])).length, hlt, out ++ [m], clean (sub left [m]), .own (h.length + X.length), .no, X.set c .dead ++ [.tail 25 3], rfl, S2, .inr ⟨X.length, rfl, by simp⟩, st_keep' (by simp [Iid.av, Iid.c]) (by simp [Iid.av, Iid.c])⟩
        · have hlt : i < left.length := by omega
          have q3 : (i : Int) < (left.length : Int) := by omega
          have hxi : (left.map Iid.av)[i]? = some (Iid.av left[i]) := by simp [hlt]
          have hgi : left[i]? = some left[i] := List.getElem?_eq_getElem hlt
          obtain ⟨n1, hn1, e1, -, -, s1⟩ := find_in hv (hil _ (List.getElem_mem hlt))
          obtain ⟨n2, hn2, e2, -, -, s2⟩ := find_in hv (hil _ (List.getElem_mem hal))
          have hx1 : (l.map Nod.av)[n1]? = some (Nod.av l[n1]) := by simp [hn1]
          have hx2 : (l.map Nod.av)[n2]? = some (Nod.av l[n2]) := by simp [hn2]
          have q4 : (n1 : Int) < (l.length : Int) := by omega
          have q5 : (n2 : Int) < (l.length : Int) := by omega
          generalize left[i] = x at *
          generalize left[a] = m at *
          generalize l[n1] = y1 at *
          generalize l[n2] = y2 at *
          have hkey : keyC l x m = (decide (y1.seq < y2.seq) || (decide (y1.seq = y2.seq) && lessB x m)) := by unfold keyC; rw [s1, s2]
          have hf1 := hfd x
          have hf2 := hfd m
          rw [e1] at hf1
          rw [e2] at hf2
          have hls := fun h => rless_ok x m h
          unfold Iid.av Iid.c at hls
          refine awp_seq ?_
          refine awp_seq ?_
          refine zh (by simp -implicitDefEqProofs (disch := (first | omega | (simp; done) | fail)) [if_pos, if_neg, wrap_i64, tmod_pos, tdiv_pos, Int.toNat_add, q3]; rfl) ?_
          refine goes_done ?_
          (try simp only [vq, if_true, reduceIte, Nat.reduceEqDiff, reduceCtorEq])
          refine awp_cond_t rfl ?_
          refine awp_skip ?_
          simp only [vq, if_true, reduceIte, Nat.reduceEqDiff, reduceCtorEq]
          refine awp_seq ?_
          refine awp_block ?_
          refine awp_seq ?_
          repeat (first | ((first | refine zd ?_ | refine zx ?_ | refine zk ?_ | refine zl ?_ | refine zr ?_); refine zq ?_) | refine zs ?_ | refine zh (by simp -implicitDefEqProofs (disch := (first | omega | (simp; done) | fail)) [if_pos, if_neg, wrap_i64, tmod_pos, tdiv_pos, Int.toNat_add, hxi, hul, q3, Iid.av, Iid.c]; rfl) ?_ | refine zb ?_ | refine zo ?_ | refine zt ?_ | refine zf ?_)
          refine zp (callable_of Try.func39) _ (hf1 _) ?_
          rintro _ _ ⟨rfl, rfl⟩
          refine goes_eq (by simp -implicitDefEqProofs (disch := (first | omega | (simp; done) | fail)) [if_pos, if_neg, wrap_i64, tmod_pos, tdiv_pos, Int.toNat_add, hx1, hu, q4, Nod.av, Nod.c]; rfl) ?_
          refine goes_done ?_
          (try simp only [vq, if_true, reduceIte, Nat.reduceEqDiff, reduceCtorEq])
          repeat (first | ((first | refine zd ?_ | refine zx ?_ | refine zk ?_ | refine zl ?_ | refine zr ?_); refine zq ?_) | refine zs ?_ | refine zh (by simp -implicitDefEqProofs (disch := (first | omega | (simp; done) | fail)) [if_pos, if_neg, wrap_i64, tmod_pos, tdiv_pos, Int.toNat_add, hxa, hul, qa, Iid.av, Iid.c]; rfl) ?_ | refine zb ?_ | refine zo ?_ | refine zt ?_ | refine zf ?_)
          refine zp (callable_of Try.func39) _ (hf2 _) ?_
          rintro _ _ ⟨rfl, rfl⟩
          refine goes_eq (by simp -implicitDefEqProofs (disch := (first | omega | (simp; done) | fail)) [if_pos, if_neg, wrap_i64, tmod_pos, tdiv_pos, Int.toNat_add, hx2, hu, q5, Nod.av, Nod.c]; rfl) ?_
          refine goes_done ?_
          (try simp only [vq, if_true, reduceIte, Nat.reduceEqDiff, reduceCtorEq])
          refine awp_seq ?_
          by_cases k1 : y1.seq < y2.seq
          · have hk : keyC l x m = true := by rw [hkey]; simp [k1]
            refine awp_draw (.q 0 (.q 1 (.q 2 (.q 3 (.q 4 (.q 5 (.q 6 (.q 7 (.q 8 (.q 9 (.q 10 (.q 11 (.q 12 (.q 13 (.q 14 (.q 15 (.a 16 (.q 17 (.q 18 (.done)))))))))))))))))))) (by kernel_rfl) (by kernel_rfl) (tree_start (goesT_eq (by simp -implicitDefEqProofs (disch := (first | omega | (simp; done) | fail)) [if_pos, if_neg, wrap_i64, tmod_pos, tdiv_pos, Int.toNat_add, k1, hxi, hxa, hul, q3, qa, Iid.av, Iid.c]; rfl) ?_))
            refine goesT_done ?_
            (try simp only [vq, if_true, reduceIte, Nat.reduceEqDiff, reduceCtorEq])
            repeat (first | ((first | refine zd ?_ | refine zx ?_ | refine zk ?_ | refine zl ?_ | refine zr ?_); refine zq ?_) | refine zs ?_ | refine zg ?_ | refine zb ?_ | refine zo ?_ | refine zt ?_ | refine zf ?_)
            exact ⟨left.length - (i + 1), by omega, i, i + 1, rfl, hlt, B.new hgi hga hk, st_keep' (by simp []) (by simp [])⟩
          by_cases k2 : y1.seq = y2.seq
          · have k2b : (y1.seq == y2.seq) = true := by simpa using k2
            have hk : keyC l x m = lessB x m := by rw [hkey]; simp [k1, k2]
            refine awp_draw (.q 0 (.q 1 (.q 2 (.q 3 (.q 4 (.q 5 (.q 6 (.q 7 (.q 8 (.q 9 (.q 10 (.q 11 (.q 12 (.q 13 (.q 14 (.q 15 (.a 16 (.q 17 (.q 18 (.done)))))))))))))))))))) (by kernel_rfl) (by kernel_rfl) (tree_start (goesT_eq (by simp -implicitDefEqProofs (disch := (first | omega | (simp; done) | fail)) [if_pos, if_neg, wrap_i64, tmod_pos, tdiv_pos, Int.toNat_add, k1, k2b, hxi, hxa, hul, q3, qa, Iid.av, Iid.c]; rfl) ?_))
            refine zP (callable_of Try.func58) _ (hls _) ?_
            rintro _ _ ⟨rfl, rfl⟩
            cases hb : lessB x m with
            | true =>
              rw [hb] at hk
              refine zE ?_
              refine goesT_done ?_
              (try simp only [vq, if_true, reduceIte, Nat.reduceEqDiff, reduceCtorEq])
              repeat (first | ((first | refine zd ?_ | refine zx ?_ | refine zk ?_ | refine zl ?_ | refine zr ?_); refine zq ?_) | refine zs ?_ | refine zg ?_ | refine zb ?_ | refine zo ?_ | refine zt ?_ | refine zf ?_)
              exact ⟨left.length - (i + 1), by omega, i, i + 1, rfl, hlt, B.new hgi hga hk, st_keep' (by simp []) (by simp [])⟩
            | false =>
              rw [hb] at hk
              refine zE ?_
              refine goesT_done ?_
              (try simp only [vq, if_true, reduceIte, Nat.reduceEqDiff, reduceCtorEq])
              repeat (first | ((first | refine zd ?_ | refine zx ?_ | refine zk ?_ | refine zl ?_ | refine zr ?_); refine zq ?_) | refine zs ?_ | refine zg ?_ | refine zb ?_ | refine zo ?_ | refine zt ?_ | refine zf ?_)
              exact ⟨left.length - (i + 1), by omega, a, i + 1, rfl, hlt, B.keep hgi hga hk, st_keep' (by simp []) (by simp [])⟩
          · have k2b : (y1.seq == y2.seq) = false := by simpa using k2
            have hk : keyC l x m = false := by rw [hkey]; simp [k1, k2]
            refine awp_draw (.q 0 (.q 1 (.q 2 (.q 3 (.q 4 (.q 5 (.q 6 (.q 7 (.q 8 (.q 9 (.q 10 (.q 11 (.q 12 (.q 13 (.q 14 (.q 15 (.a 16 (.q 17 (.q 18 (.done)))))))))))))))))))) (by kernel_rfl) (by kernel_rfl) (tree_start (goesT_eq (by simp -implicitDefEqProofs (disch := (first | omega | (simp; done) | fail)) [if_pos, if_neg, wrap_i64, tmod_pos, tdiv_pos, Int.toNat_add, k1, k2b, hxi, hxa, hul, q3, qa, Iid.av, Iid.c]; rfl) ?_))
            refine goesT_done ?_
            (try simp only [vq, if_true, reduceIte, Nat.reduceEqDiff, reduceCtorEq])
            repeat (first | ((first | refine zd ?_ | refine zx ?_ | refine zk ?_ | refine zl ?_ | refine zr ?_); refine zq ?_) | refine zs ?_ | refine zg ?_ | refine zb ?_ | refine zo ?_ | refine zt ?_ | refine zf ?_)
            exact ⟨left.length - (i + 1), by omega, a, i + 1, rfl, hlt, B.keep hgi hga hk, st_keep' (by simp []) (by simp [])⟩
      · exact ⟨0, 1, rfl, by omega, .start, st_keep' (by simp []) (by simp [])⟩
  · exact ⟨[], g, .full, .own h.length, [.tail 25 3], rfl, S0, .inl rfl, st_keep' (by simp []) (by simp [])⟩
end Go.Proofs.Ytajgeofhlgoifaa.G

/- Graphs: the document's order, step by step: it is the same. -/
set_option linter.unusedVariables false
set_option linter.unusedSimpArgs false
set_option maxRecDepth 20000
namespace Go.Proofs.Ytajgeofhlgoifaa.G
open Go Go.Proofs.Ytajgeofhlgoifaa.V Go.Proofs.Ytajgeofhlgoifaa.I Go.Sort Go.RowKit
attribute [-simp] List.length_flatten List.map_flatten List.map_take List.map_drop
theorem may_same {dp : Iid → List Iid} {now g g' : List Iid} (h : ∀ y, y ∈ g ↔ y ∈ g') : Tar.mayB dp now g = Tar.mayB dp now g' := by
  rw [Bool.eq_iff_iff, Tar.mayB_iff, Tar.mayB_iff]
  unfold Tar.May
  simp only [h]
theorem left_congr {dp : Iid → List Iid} {dn : Iid → Bool} {grs : List (List Iid)} {now now' : List Iid} {left : List (List Iid)} (h : ∀ x, x ∈ now → x ∈ now') (L : Tar.Left dp dn grs now left) : Tar.Left dp dn grs now' left :=
  ⟨L.topo, fun y hy => h y (L.dn y hy), L.sub, fun g hg hn x hx => h x (L.out g hg hn x hx)⟩
theorem flat_sub {α : Type} {a b : List (List α)} (h : a.Sublist b) : a.flatten.Sublist b.flatten := by
  induction h with
  | slnil => exact .refl _
  | cons x _ ih => rw [List.flatten_cons]; exact ih.trans (List.sublist_append_right _ _)
  | cons_cons x _ ih => rw [List.flatten_cons, List.flatten_cons]; exact List.Sublist.append (.refl _) ih
/-- Between two groups. -/
structure RInv (l : List Nod) (dn : List Iid) (gs grs out outs : List (List Iid)) (now : List Iid) (left : List (List Iid)) : Prop where
  L : Tar.Left (dpOf l) (dnB dn) grs now left
  nd : left.Nodup
  run : out = outs ++ runG l left.length now left
  sub : left.Sublist gs
  nowm : ∀ y, y ∈ now ↔ y ∈ dn ∨ (CanDo l dn y ∧ ∀ g ∈ left, y ∉ g)
/-- What was looked at may not be next. -/
def Scan (l : List Nod) (rs now : List Iid) (left : List (List Iid)) (i : Nat) : Prop := ∀ j x, j < i → rs[j]? = some x → ∀ g ∈ left, x ∈ g → Tar.mayB (dpOf l) now g = false
section
variable {l : List Nod} {dn : List Iid} {gs grs out outs : List (List Iid)} {now rs : List Iid} {left : List (List Iid)} {i : Nat} {x : Iid}
theorem RInv.start (hG : GsG l dn gs) (hL : Tar.Left (dpOf l) (dnB dn) grs dn gs) (he : out = runG l gs.length dn gs) : RInv l dn gs grs out [] dn gs :=
  ⟨hL, (hG.ord.imp fun {a b} h e => by subst e; rw [less_lt.irr] at h; cases h), by simpa using he, List.Sublist.refl _, fun y => ⟨.inl, fun h => h.resolve_right fun ⟨h1, h2⟩ => by
    obtain ⟨g, hg, hy⟩ := List.mem_flatten.1 ((hG.mem y).2 h1)
    exact h2 g hg hy⟩⟩
theorem RInv.grp (I : RInv l dn gs grs out outs now left) (hG : GsG l dn gs) {g : List Iid} (hg : g ∈ left) : Tar.IsGrp (dpOf l) (dnB dn) g ∧ (g.Pairwise fun a b => keyC l a b = true) ∧ ∀ y ∈ g, CanDo l dn y :=
  ⟨hG.grp g (I.sub.subset hg), hG.srt g (I.sub.subset hg), fun y hy => (hG.mem y).1 (List.mem_flatten.2 ⟨g, I.sub.subset hg, hy⟩)⟩
/-- One that can be done, and is not there: its group is left. -/
theorem RInv.has (I : RInv l dn gs grs out outs now left) (hx : CanDo l dn x) (hn : x ∉ now) : ∃ g ∈ left, x ∈ g := by
  refine Classical.byContradiction fun hc => hn ((I.nowm x).2 (.inr ⟨hx, fun g hg hx => hc ⟨g, hg, hx⟩⟩))
theorem RInv.no (I : RInv l dn gs grs out outs now left) (hG : GsG l dn gs) (hn : x ∈ now) : ∀ g ∈ left, x ∉ g := fun g hg hx => by
  rcases (I.nowm x).1 hn with h | ⟨_, h⟩
  · exact ((I.grp hG hg).2.2 x hx).2.1 h
  · exact h g hg hx
/-- The first that may be next, by the least of each. -/
theorem RInv.first (I : RInv l dn gs grs out outs now left) (hG : GsG l dn gs) (hr : Ris rs) (hm : ∀ y, y ∈ rs ↔ CanDo l dn y) (S : Scan l rs now left i) (hx : rs[i]? = some x) {m : Nat} {g : List Iid} (hg : left[m]? = some g) (hxg : x ∈ g) (hy : Tar.mayB (dpOf l) now g = true) : left.findIdx? (mayG l now) = some m := by
  obtain ⟨hml, hgm⟩ := List.getElem?_eq_some_iff.1 hg
  have hord : left.Pairwise fun a b => lessB (leastG a) (leastG b) = true := hG.ord.sublist I.sub
  cases hf : left.findIdx? (mayG l now) with
  | none =>
    rw [List.findIdx?_eq_none_iff] at hf
    have h1 := hf g (List.mem_of_getElem? hg)
    have h2 : mayG l now g = true := hy
    rw [h2] at h1; cases h1
  | some j =>
    obtain ⟨g', h1, h2, h3⟩ := Tar.find_get hf
    have h2 : Tar.mayB (dpOf l) now g' = true := h2
    rcases Nat.lt_trichotomy j m with hjm | hjm | hjm
    · exfalso
      obtain ⟨hjl, hgj⟩ := List.getElem?_eq_some_iff.1 h1
      have hlt : lessB (leastG g') (leastG g) = true := by
        have := List.pairwise_iff_getElem.1 hord j m hjl hml hjm
        rw [hgj, hgm] at this
        exact this
      have hg' := List.mem_of_getElem? h1
      obtain ⟨k1, k2, k3⟩ := I.grp hG hg'
      obtain ⟨l1, _⟩ := Tar.leastL_ok less_lt iid0 k1.ne
      obtain ⟨_, l2⟩ := Tar.leastL_ok less_lt iid0 (I.grp hG (List.mem_of_getElem? hg)).1.ne
      have hxl := l2 x hxg
      obtain ⟨p, hp, e⟩ := List.getElem_of_mem ((hm _).2 (k3 _ l1))
      rcases Nat.lt_trichotomy p i with hpi | hpi | hpi
      · have := S p _ hpi (by rw [List.getElem?_eq_getElem hp, e]) g' hg' l1
        rw [h2] at this; cases this
      · subst hpi
        rw [List.getElem?_eq_getElem hp, e] at hx
        cases hx
        rw [hlt] at hxl; cases hxl
      · obtain ⟨hil, hxi⟩ := List.getElem?_eq_some_iff.1 hx
        have h5 := List.pairwise_iff_getElem.1 hr i p hil hp hpi
        rw [hxi, e] at h5
        rw [less_lt.tr _ _ _ h5 hlt] at hxl; cases hxl
    · rw [hjm]
    · have := h3 m g hjm hg
      rw [show mayG l now g = true from hy] at this; cases this
theorem RInv.step (I : RInv l dn gs grs out outs now left) (hG : GsG l dn gs) {m : Nat} {g g2 : List Iid} (hf : left.findIdx? (mayG l now) = some m) (hg : left[m]? = some g) (h2 : ∀ y, y ∈ g2 ↔ y ∈ g) : RInv l dn gs grs out (outs ++ [g]) (now ++ g2) (left.eraseIdx m) ∧ (left.eraseIdx m).length + 1 = left.length := by
  obtain ⟨hml, hgm⟩ := List.getElem?_eq_some_iff.1 hg
  have hlen : (left.eraseIdx m).length = left.length - 1 := List.length_eraseIdx_of_lt hml
  have hcg : ∀ x, x ∈ now ++ g ↔ x ∈ now ++ g2 := fun x => by rw [List.mem_append, List.mem_append, h2]
  have hfn : left.flatten.Nodup := hG.nd.sublist (flat_sub I.sub)
  refine ⟨⟨left_congr (fun x h => (hcg x).1 h) (I.L.step I.nd hg), I.nd.sublist (List.eraseIdx_sublist _ _), ?_, (List.eraseIdx_sublist _ _).trans I.sub, fun y => ?_⟩, by omega⟩
  · rw [I.run, runG_step hf hg, hlen]
    unfold runG
    rw [Tar.runO_congr _ hcg]
    simp
  · rw [List.mem_append, h2, I.nowm y]
    constructor
    · rintro ((h | ⟨h3, h4⟩) | h)
      · exact .inl h
      · exact .inr ⟨h3, fun g' hg' => h4 g' (List.mem_of_mem_eraseIdx hg')⟩
      · refine .inr ⟨(I.grp hG (List.mem_of_getElem? hg)).2.2 y h, fun g' hg' hy => ?_⟩
        rw [List.mem_eraseIdx_iff_getElem?] at hg'
        obtain ⟨b, hb, hb2⟩ := hg'
        obtain ⟨hbl, hgb⟩ := List.getElem?_eq_some_iff.1 hb2
        exact hb (flat_inj hfn b m hbl hml (by rw [hgb]; exact hy) (by rw [hgm]; exact h))
    · rintro (h | ⟨h3, h4⟩)
      · exact .inl (.inl h)
      · by_cases hy : y ∈ g
        · exact .inr hy
        · refine .inl (.inr ⟨h3, fun g' hg' hy' => ?_⟩)
          obtain ⟨b, hb, e⟩ := List.getElem_of_mem hg'
          by_cases hbm : b = m
          · subst hbm; rw [hgm] at e; rw [e] at hy; exact hy hy'
          · exact h4 g' (by rw [List.mem_eraseIdx_iff_getElem?]; exact ⟨b, hbm, by rw [List.getElem?_eq_getElem hb, e]⟩) hy'
theorem RInv.fin (I : RInv l dn gs grs out outs now left) (hG : GsG l dn gs) (hm : ∀ y, y ∈ rs ↔ CanDo l dn y) (S : Scan l rs now left rs.length) : out = outs := by
  by_cases h : left = []
  · have := I.run
    rw [h] at this
    simpa [runG, Tar.runO] using this
  · exfalso
    obtain ⟨j, hj⟩ := I.L.next h
    obtain ⟨g', h1, h2, _⟩ := Tar.find_get hj
    have hg' := List.mem_of_getElem? h1
    obtain ⟨k1, k2, k3⟩ := I.grp hG hg'
    obtain ⟨l1, _⟩ := Tar.leastL_ok less_lt iid0 k1.ne
    obtain ⟨p, hp, e⟩ := List.getElem_of_mem ((hm _).2 (k3 _ l1))
    have := S p _ hp (by rw [List.getElem?_eq_getElem hp, e]) g' hg' l1
    rw [h2] at this; cases this
end
end Go.Proofs.Ytajgeofhlgoifaa.G

/- Graphs: the document's answer: Order. -/
set_option linter.unusedVariables false
set_option linter.unusedSimpArgs false
set_option maxRecDepth 20000
set_option maxHeartbeats 4000000
namespace Go.Proofs.Ytajgeofhlgoifaa.G
open Go Go.Proofs.Ytajgeofhlgoifaa.V Go.Proofs.Ytajgeofhlgoifaa.I Go.Sort Go.RowKit
attribute [-simp] List.length_flatten List.map_flatten List.map_take List.map_drop
theorem TokZ.set {b : Nat} {Z : AHeap} {e : TypeId} {k : Nat} {t : Tok} (h : TokZ b Z e k t) {c : Nat} {e2 : TypeId} {k2 : Nat} (hc : Z[c]? = some (.tail e2 k2)) (hne : k ≠ k2) : TokZ b (Z.set c .dead) e k t := by
  rcases h with rfl | ⟨j, rfl, hj⟩
  · exact .inl rfl
  · refine .inr ⟨j, rfl, ?_⟩
    have : c ≠ j := fun e => by subst e; rw [hj] at hc; injection hc with hc; injection hc with _ h; exact hne h
    rw [List.getElem?_set_ne this]
    exact hj
theorem rorder_ok (l : List Nod) (dn : List Iid) (out : List (List Iid)) (t td : Tok) (hs : Small l []) (hv : validB l = true) (hdn : dn.length ≤ 1000) (hO : OrdOk l dn out) (h : AHeap) :
    ACalls Try.prog 15 [.list (l.map Nod.av) t, .list (dn.map Iid.av) td] h fun r h' => ∃ X : AHeap, r = .list (out.map lv) .no ∧ h' = h ++ X := by
  have hol := hO.len
  obtain ⟨gs, hG0, hperm, _⟩ := hO.perm
  obtain ⟨gs, hG, ⟨grs, hL⟩, he⟩ := hO
  have hgl : gs.length ≤ 14 := by
    have : gs = _ := Tar.Gs.unique (keyC_ok l) less_lt hG hG0
    rw [this, ← hperm.length_eq]
    have := hs.len
    omega
  clear hG0 hperm hol
  have R0 := RInv.start hG hL he
  have h14 := hs.len
  have hu := nod_uni l
  obtain ⟨q1, q2⟩ := nbig2 (n := dn.length) (by omega)
  have hud := av_onesL dn
  have hdu := iid_uni dn
  have hrd := fun h => rready_ok l dn .no .no hs hdn h
  refine acalls_of_awp Try.func15 rfl (by simp only [List.length_cons, List.length_nil]; decide) ?_
  simp only [params_cons, params_nil]
  repeat (first | ((first | refine zd ?_ | refine zx ?_ | refine zk ?_ | refine zl ?_ | refine zr ?_); refine zq ?_) | refine zs ?_ | refine zg ?_ | refine zb ?_ | refine zo ?_ | refine zt ?_ | refine zf ?_)
  refine zp (callable_of Try.func21) _ (hrd _) ?_
  rintro _ _ ⟨rs, XR, rfl, rfl, -, hrs⟩
  obtain ⟨hris, hmem⟩ := hrs hv
  have hrl : rs.length ≤ 14 := by
    have := can_len (ris_nodup0 hris) fun x hx => (hmem x).1 hx
    omega
  have hur := iid_uni rs
  refine goes_eq (by simp -implicitDefEqProofs (disch := (first | omega | (simp; done) | fail)) [if_pos, if_neg, wrap_i64, tmod_pos, tdiv_pos, Int.toNat_add, lv]; rfl) ?_
  refine goes_done ?_
  (try simp only [vq, if_true, reduceIte, Nat.reduceEqDiff, reduceCtorEq])
  repeat (first | ((first | refine zd ?_ | refine zx ?_ | refine zk ?_ | refine zl ?_ | refine zr ?_); refine zq ?_) | refine zs ?_ | refine zh (by simp -implicitDefEqProofs (disch := (first | omega | (simp; done) | fail)) [if_pos, if_neg, wrap_i64, tmod_pos, tdiv_pos, Int.toNat_add, hud, hdu, q1, q2]; rfl) ?_ | refine zb ?_ | refine zo ?_ | refine zt ?_ | refine zf ?_)
  have hGm := fun x => (hmem x)
  clear hud hdu q1 q2 hrd
  refine awp_loop (fun z st => ∃ (outs : List (List Iid)) (now : List Iid) (left : List (List Iid)) (tok : Tok) (d : Nat) (X : AHeap), z = left.length ∧ RInv l dn gs grs out outs now left ∧ now.length + 1000 * left.length ≤ 20000 ∧ outs.length + left.length ≤ 14 ∧ TokZ h.length X 23 1 tok ∧ X[d]? = some (.tail 25 3) ∧ st.le ⟨Try.f15.ntmps, [(0, .list (l.map Nod.av) t), (1, .list (dn.map Iid.av) td), (5, .list (outs.map lv) tok), (6, .list (rs.map Iid.av) .no), (7, .list (now.map Iid.av) (.own (h.length + d)))], h ++ X⟩) gs.length ?_ ?_
  rotate_left
  rintro z st ⟨outs, now, left, tok, d, X, rfl, R, hnl, hll, ht, hd, hle⟩
  · refine awp_le hle ?_
    clear hle
    obtain ⟨L0, hL0⟩ : ∃ n, n = left.length := ⟨_, rfl⟩
    rw [← hL0]
    refine awp_block ?_
    refine awp_seq ?_
    repeat (first | ((first | refine zd ?_ | refine zx ?_ | refine zk ?_ | refine zl ?_ | refine zr ?_); refine zq ?_) | refine zs ?_ | refine zg ?_ | refine zb ?_ | refine zo ?_ | refine zt ?_ | refine zf ?_)
    refine awp_loop (fun z st => ∃ (i : Nat) (at' : Int) (outs : List (List Iid)) (now : List Iid) (left : List (List Iid)) (tok : Tok) (d : Nat) (X : AHeap), z = rs.length - i ∧ i ≤ rs.length ∧ RInv l dn gs grs out outs now left ∧ now.length + 1000 * left.length ≤ 20000 ∧ outs.length + left.length ≤ 14 ∧ TokZ h.length X 23 1 tok ∧ X[d]? = some (.tail 25 3) ∧ ((at' = -1 ∧ left.length = L0 ∧ Scan l rs now left i) ∨ (0 ≤ at' ∧ left.length < L0)) ∧ st.le ⟨Try.f15.ntmps, [(0, .list (l.map Nod.av) t), (1, .list (dn.map Iid.av) td), (5, .list (outs.map lv) tok), (6, .list (rs.map Iid.av) .no), (7, .list (now.map Iid.av) (.own (h.length + d))), (8, iv at'), (9, iv (i : Nat))], h ++ X⟩) rs.length ?_ ?_
    rotate_left
    rintro z st ⟨i, at', outs, now, left, tok, d, X, rfl, hi, R, hnl, hll, ht, hd, hor, hle⟩
    · refine awp_le hle ?_
      clear hle
      rcases hor with ⟨rfl, hlL, S⟩ | ⟨ha, hlL⟩
      rotate_left
      · have qa : ¬ at' < 0 := by omega
        by_cases h9 : (i : Int) < (rs.length : Int)
        · repeat (first | ((first | refine zd ?_ | refine zx ?_ | refine zk ?_ | refine zl ?_ | refine zr ?_); refine zq ?_) | refine zs ?_ | refine zh (by simp -implicitDefEqProofs (disch := (first | omega | (simp; done) | fail)) [if_pos, if_neg, wrap_i64, tmod_pos, tdiv_pos, Int.toNat_add, h9, qa]; rfl) ?_ | refine zb ?_ | refine zo ?_ | refine zt ?_ | refine zf ?_)
          exact ⟨left.length, hlL, outs, now, left, tok, d, X, rfl, R, hnl, hll, ht, hd, st_keep' (by simp []) (by simp [])⟩
        · repeat (first | ((first | refine zd ?_ | refine zx ?_ | refine zk ?_ | refine zl ?_ | refine zr ?_); refine zq ?_) | refine zs ?_ | refine zh (by simp -implicitDefEqProofs (disch := (first | omega | (simp; done) | fail)) [if_pos, if_neg, wrap_i64, tmod_pos, tdiv_pos, Int.toNat_add, h9, qa]; rfl) ?_ | refine zb ?_ | refine zo ?_ | refine zt ?_ | refine zf ?_)
          exact ⟨left.length, hlL, outs, now, left, tok, d, X, rfl, R, hnl, hll, ht, hd, st_keep' (by simp []) (by simp [])⟩
      by_cases h9 : i = rs.length
      · subst h9
        have q : ¬ (rs.length : Int) < (rs.length : Int) := by omega
        have heo := R.fin hG hmem S
        repeat (first | ((first | refine zd ?_ | refine zx ?_ | refine zk ?_ | refine zl ?_ | refine zr ?_); refine zq ?_) | refine zs ?_ | refine zh (by simp -implicitDefEqProofs (disch := (first | omega | (simp; done) | fail)) [if_pos, if_neg, wrap_i64, tmod_pos, tdiv_pos, Int.toNat_add, q]; rfl) ?_ | refine zb ?_ | refine zo ?_ | refine zt ?_ | refine zf ?_)
        first | refine body_all (.inr rfl) (by simp -implicitDefEqProofs; rfl) (by simp -implicitDefEqProofs; rfl) (by first | (simp; done) | (simp; omega) | omega) ?_ | refine body_all (.inl rfl) (by simp -implicitDefEqProofs; rfl) (by simp -implicitDefEqProofs; rfl) (by first | (simp; done) | (simp; omega) | omega) ?_
        exact ⟨_, by rw [heo], rfl⟩
      have hlt : i < rs.length := by omega
      have q : (i : Int) < (rs.length : Int) := by omega
      have hxg : rs[i]? = some rs[i] := List.getElem?_eq_getElem hlt
      have hx2 : (rs.map Iid.av)[i]? = some (Iid.av rs[i]) := by simp [hlt]
      have hxc : CanDo l dn rs[i] := (hmem _).1 (List.getElem_mem hlt)
      generalize rs[i] = x at *
      have hhx := fun h => rhas_ok now x .no (by omega) h
      have hgr := fun h => rgroup_ok l x dn .no .no hs hv hdn hxc.2.1 h
      unfold Iid.av at hhx hgr
      rw [show (fun x => AV.agg (Iid.c x)) = Iid.av from rfl] at hhx hgr
      unfold Iid.c at hhx hgr
      refine awp_seq ?_
      refine awp_seq ?_
      refine zh (by simp -implicitDefEqProofs (disch := (first | omega | (simp; done) | fail)) [if_pos, if_neg, wrap_i64, tmod_pos, tdiv_pos, Int.toNat_add, q]; rfl) ?_
      refine goes_done ?_
      (try simp only [vq, if_true, reduceIte, Nat.reduceEqDiff, reduceCtorEq])
      refine awp_cond_t rfl ?_
      refine awp_skip ?_
      simp only [vq, if_true, reduceIte, Nat.reduceEqDiff, reduceCtorEq]
      refine awp_seq ?_
      refine awp_block ?_
      refine awp_seq ?_
      repeat (first | ((first | refine zd ?_ | refine zx ?_ | refine zk ?_ | refine zl ?_ | refine zr ?_); refine zq ?_) | refine zs ?_ | refine zh (by simp -implicitDefEqProofs (disch := (first | omega | (simp; done) | fail)) [if_pos, if_neg, wrap_i64, tmod_pos, tdiv_pos, Int.toNat_add, hx2, hur, q, Iid.av, Iid.c]; rfl) ?_ | refine zb ?_ | refine zo ?_ | refine zt ?_ | refine zf ?_)
      refine zp (callable_of Try.func37) _ (hhx _) ?_
      rintro _ _ ⟨rfl, rfl⟩
      by_cases hxn : x ∈ now
      · have hc : now.contains x = true := by simpa using hxn
        rw [hc]
        refine ze ?_
        refine goes_done ?_
        (try simp only [vq, if_true, reduceIte, Nat.reduceEqDiff, reduceCtorEq])
        repeat (first | ((first | refine zd ?_ | refine zx ?_ | refine zk ?_ | refine zl ?_ | refine zr ?_); refine zq ?_) | refine zs ?_ | refine zg ?_ | refine zb ?_ | refine zo ?_ | refine zt ?_ | refine zf ?_)
        refine ⟨rs.length - (i + 1), by omega, i + 1, -1, outs, now, left, tok, d, X, rfl, hlt, R, hnl, hll, ht, hd, .inl ⟨rfl, hlL, fun j y hj hy g hg hyg => ?_⟩, st_keep' (by simp []) (by simp [])⟩
        by_cases e : j = i
        · subst e
          rw [hxg] at hy; cases hy
          exact absurd hyg (R.no hG hxn g hg)
        · exact S j y (by omega) hy g hg hyg
      have hc : now.contains x = false := by simpa using hxn
      rw [hc]
      obtain ⟨γ, hγ, hxγ⟩ := R.has hxc hxn
      obtain ⟨G1, G2, G3⟩ := R.grp hG hγ
      refine ze ?_
      refine goes_done ?_
      (try simp only [vq, if_true, reduceIte, Nat.reduceEqDiff, reduceCtorEq])
      repeat (first | ((first | refine zd ?_ | refine zx ?_ | refine zk ?_ | refine zl ?_ | refine zr ?_); refine zq ?_) | refine zs ?_ | refine zh (by simp -implicitDefEqProofs (disch := (first | omega | (simp; done) | fail)) [if_pos, if_neg, wrap_i64, tmod_pos, tdiv_pos, Int.toNat_add, hx2, hur, q, Iid.av, Iid.c]; rfl) ?_ | refine zb ?_ | refine zo ?_ | refine zt ?_ | refine zf ?_)
      refine zp (callable_of Try.func38) _ (hgr _) ?_
      rintro _ _ ⟨g, XG, rfl, rfl, hgn, hgm, hgl2⟩
      have hsame : ∀ y, y ∈ g ↔ y ∈ γ := fun y => by rw [hgm, G1.mem_iff hxγ]
      have hmay := may_same (dp := dpOf l) (now := now) hsame
      refine ze ?_
      refine goes_done ?_
      (try simp only [vq, if_true, reduceIte, Nat.reduceEqDiff, reduceCtorEq])
      have hug := iid_uni g
      have hun := iid_uni now
      have ht := ht.app XG
      have hd : (X ++ XG)[d]? = some (.tail 25 3) := by rw [List.getElem?_append_left (get_lt hd)]; exact hd
      generalize X ++ XG = X at *
      repeat (first | ((first | refine zd ?_ | refine zx ?_ | refine zk ?_ | refine zl ?_ | refine zr ?_); refine zq ?_) | refine zs ?_ | refine zg ?_ | refine zb ?_ | refine zo ?_ | refine zt ?_ | refine zf ?_)
      refine awp_loop (fun z st => ∃ (k : Nat) (b : Bool), z = g.length - k ∧ k ≤ g.length ∧ (b = true ↔ ∀ y ∈ g.take k, ∀ e ∈ dpOf l y, e ∈ now ∨ e ∈ g) ∧ st.le ⟨Try.f15.ntmps, [(0, .list (l.map Nod.av) t), (1, .list (dn.map Iid.av) td), (5, .list (outs.map lv) tok), (6, .list (rs.map Iid.av) .no), (7, .list (now.map Iid.av) (.own (h.length + d))), (8, iv (-1)), (9, iv (i : Nat)), (10, .list (g.map Iid.av) .no), (11, .bool b), (12, iv (k : Nat))], h ++ X⟩) g.length ?_ ?_
      rotate_left
      rintro z st ⟨k, b, rfl, hk, hb, hle⟩
      · refine awp_le hle ?_
        clear hle
        by_cases h8 : k = g.length
        · subst h8
          have q3 : ¬ (g.length : Int) < (g.length : Int) := by omega
          rw [List.take_length] at hb
          have hbm : b = Tar.mayB (dpOf l) now γ := by
            rw [← hmay, Bool.eq_iff_iff, Tar.mayB_iff, hb]
            exact Iff.rfl
          cases b with
          | false =>
            repeat (first | ((first | refine zd ?_ | refine zx ?_ | refine zk ?_ | refine zl ?_ | refine zr ?_); refine zq ?_) | refine zs ?_ | refine zh (by simp -implicitDefEqProofs (disch := (first | omega | (simp; done) | fail)) [if_pos, if_neg, wrap_i64, tmod_pos, tdiv_pos, Int.toNat_add, q3]; rfl) ?_ | refine zb ?_ | refine zo ?_ | refine zt ?_ | refine zf ?_)
            refine ⟨rs.length - (i + 1), by omega, i + 1, -1, outs, now, left, tok, d, X, rfl, hlt, R, hnl, hll, ht, hd, .inl ⟨rfl, hlL, fun j y hj hy g' hg' hyg => ?_⟩, st_keep' (by simp []) (by simp [])⟩
            by_cases e : j = i
            · subst e
              rw [hxg] at hy; cases hy
              obtain ⟨K1, K2, _⟩ := R.grp hG hg'
              rw [Tar.grp_eq (keyC_ok l) K1 G1 K2 G2 hyg hxγ, ← hbm]
            · exact S j y (by omega) hy g' hg' hyg
          | true =>
            obtain ⟨m, hml, hmg⟩ := List.getElem_of_mem hγ
            have hmg2 : left[m]? = some γ := by rw [List.getElem?_eq_getElem hml, hmg]
            have hf := R.first hG hris hmem S hxg hmg2 hxγ hbm.symm
            obtain ⟨R2, hL2⟩ := R.step hG hf hmg2 hsame
            have hso := fun h => rsorted_ok l g .no .no hs hv (fun y hy => (G3 y ((hsame y).1 hy)).1) hgn hgl2 h
            have huo := lv_uni outs
            obtain ⟨q6, q7, -, -⟩ := nbig (n := outs.length) (by omega)
            obtain ⟨q8, q9⟩ := nbig2 (n := now.length + g.length) (by omega)
            have hog := av_onesL g
            have hon := av_onesL now
            repeat (first | ((first | refine zd ?_ | refine zx ?_ | refine zk ?_ | refine zl ?_ | refine zr ?_); refine zq ?_) | refine zs ?_ | refine zh (by simp -implicitDefEqProofs (disch := (first | omega | (simp; done) | fail)) [if_pos, if_neg, wrap_i64, tmod_pos, tdiv_pos, Int.toNat_add, q3]; rfl) ?_ | refine zb ?_ | refine zo ?_ | refine zt ?_ | refine zf ?_)
            refine zp (callable_of Try.func40) _ (hso _) ?_
            rintro _ _ ⟨s, XS, rfl, rfl, hsp, hsm⟩
            obtain rfl : s = γ := Tar.pw_unique (fun a b h1 h2 => by rw [(keyC_ok l).asy a b h1] at h2; cases h2) hsp G2 fun y => (hsm y).trans (hsame y)
            have ht := ht.app XS
            have hd : (X ++ XS)[d]? = some (.tail 25 3) := by rw [List.getElem?_append_left (get_lt hd)]; exact hd
            rw [List.append_assoc]
            generalize X ++ XS = X at *
            have huo2 : uni 1 [lv s] = true := rfl
            rcases ht with rfl | ⟨c, rfl, hcc⟩
            · refine goes_eq (by simp -implicitDefEqProofs (disch := (first | omega | (simp; done) | fail)) [if_pos, if_neg, wrap_i64, tmod_pos, tdiv_pos, Int.toNat_add, lv, huo, q6, q7]; rfl) ?_
              refine goes_done ?_
              (try simp only [vq, if_true, reduceIte, Nat.reduceEqDiff, reduceCtorEq])
              have hd2 : (X ++ [AObj.tail 23 1])[d]? = some (.tail 25 3) := by rw [List.getElem?_append_left (get_lt hd)]; exact hd
              have ht2 : (X ++ [AObj.tail 23 1])[X.length]? = some (.tail 23 1) := by simp
              generalize X ++ [AObj.tail 23 1] = X2 at *
              generalize X.length = n2 at *
              have hd3 := TokZ.set (.inr ⟨n2, rfl, ht2⟩ : TokZ h.length X2 23 1 (.own (h.length + n2))) hd2 (by decide)
              repeat (first | ((first | refine zd ?_ | refine zx ?_ | refine zk ?_ | refine zl ?_ | refine zr ?_); refine zq ?_) | refine zs ?_ | refine zh (by simp -implicitDefEqProofs (disch := (first | omega | (simp; done) | fail)) [if_pos, if_neg, wrap_i64, tmod_pos, tdiv_pos, Int.toNat_add, hog, hon, hug, hun, q8, q9, hd2]; rfl) ?_ | refine zb ?_ | refine zo ?_ | refine zt ?_ | refine zf ?_)
              refine ⟨rs.length - (i + 1), by omega, i + 1, (i : Nat), outs ++ [s], now ++ g, left.eraseIdx m, .own (h.length + n2), X2.length, X2.set d .dead ++ [.tail 25 3], rfl, hlt, R2, by rw [List.length_append]; omega, by rw [List.length_append, List.length_singleton]; omega, hd3.app _, by simp, .inr ⟨by omega, by omega⟩, st_keep' (by simp [lv]) (by simp [lv])⟩
            · have hcd : c ≠ d := fun e => by subst e; rw [hcc] at hd; injection hd with hd; injection hd with _ hd; cases hd
              refine goes_eq (by simp -implicitDefEqProofs (disch := (first | omega | (simp; done) | fail)) [if_pos, if_neg, wrap_i64, tmod_pos, tdiv_pos, Int.toNat_add, lv, huo, q6, q7, hcc]; rfl) ?_
              refine goes_done ?_
              (try simp only [vq, if_true, reduceIte, Nat.reduceEqDiff, reduceCtorEq])
              have hd2 : (List.set X c AObj.dead ++ [AObj.tail 23 1])[d]? = some (.tail 25 3) := by rw [List.getElem?_append_left (by rw [List.length_set]; exact get_lt hd), List.getElem?_set_ne hcd]; exact hd
              have ht2 : (List.set X c AObj.dead ++ [AObj.tail 23 1])[X.length]? = some (.tail 23 1) := by simp
              generalize List.set X c AObj.dead ++ [AObj.tail 23 1] = X2 at *
              generalize X.length = n2 at *
              have hd3 := TokZ.set (.inr ⟨n2, rfl, ht2⟩ : TokZ h.length X2 23 1 (.own (h.length + n2))) hd2 (by decide)
              repeat (first | ((first | refine zd ?_ | refine zx ?_ | refine zk ?_ | refine zl ?_ | refine zr ?_); refine zq ?_) | refine zs ?_ | refine zh (by simp -implicitDefEqProofs (disch := (first | omega | (simp; done) | fail)) [if_pos, if_neg, wrap_i64, tmod_pos, tdiv_pos, Int.toNat_add, hog, hon, hug, hun, q8, q9, hd2]; rfl) ?_ | refine zb ?_ | refine zo ?_ | refine zt ?_ | refine zf ?_)
              refine ⟨rs.length - (i + 1), by omega, i + 1, (i : Nat), outs ++ [s], now ++ g, left.eraseIdx m, .own (h.length + n2), X2.length, X2.set d .dead ++ [.tail 25 3], rfl, hlt, R2, by rw [List.length_append]; omega, by rw [List.length_append, List.length_singleton]; omega, hd3.app _, by simp, .inr ⟨by omega, by omega⟩, st_keep' (by simp [lv]) (by simp [lv])⟩
        · have hlk : k < g.length := by omega
          have q3 : (k : Int) < (g.length : Int) := by omega
          have hx3 : (g.map Iid.av)[k]? = some (Iid.av g[k]) := by simp [hlk]
          have htk : ∀ z, z ∈ g.take (k + 1) ↔ z ∈ g.take k ∨ z = g[k] := fun z => by rw [List.take_succ_eq_append_getElem hlk, List.mem_append, List.mem_singleton]
          have hyn : g[k] ∈ idsN l := (G3 _ ((hsame _).1 (List.getElem_mem hlk))).1
          generalize g[k] = y at *
          obtain ⟨n, hn, e1, e2, -, -⟩ := find_in hv hyn
          have hfy := fun h => find_ok l y .no (by omega) h
          rw [e1] at hfy
          unfold Iid.av Iid.c at hfy
          have hx4 : (l.map Nod.av)[n]? = some (Nod.av l[n]) := by simp [hn]
          have q4 : (n : Int) < (l.length : Int) := by omega
          have hwl : l[n].deps.length ≤ 14 := hs.dep _ (List.getElem_mem hn)
          generalize l[n] = w at *
          refine awp_seq ?_
          refine awp_seq ?_
          refine zh (by simp -implicitDefEqProofs (disch := (first | omega | (simp; done) | fail)) [if_pos, if_neg, wrap_i64, tmod_pos, tdiv_pos, Int.toNat_add, q3]; rfl) ?_
          refine goes_done ?_
          (try simp only [vq, if_true, reduceIte, Nat.reduceEqDiff, reduceCtorEq])
          refine awp_cond_t rfl ?_
          refine awp_skip ?_
          simp only [vq, if_true, reduceIte, Nat.reduceEqDiff, reduceCtorEq]
          refine awp_seq ?_
          refine awp_block ?_
          refine awp_seq ?_
          repeat (first | ((first | refine zd ?_ | refine zx ?_ | refine zk ?_ | refine zl ?_ | refine zr ?_); refine zq ?_) | refine zs ?_ | refine zh (by simp -implicitDefEqProofs (disch := (first | omega | (simp; done) | fail)) [if_pos, if_neg, wrap_i64, tmod_pos, tdiv_pos, Int.toNat_add, hx3, hug, q3, Iid.av, Iid.c]; rfl) ?_ | refine zb ?_ | refine zo ?_ | refine zt ?_ | refine zf ?_)
          refine zp (callable_of Try.func39) _ (hfy _) ?_
          rintro _ _ ⟨rfl, rfl⟩
          refine goes_eq (by simp -implicitDefEqProofs (disch := (first | omega | (simp; done) | fail)) [if_pos, if_neg, wrap_i64, tmod_pos, tdiv_pos, Int.toNat_add, hx4, hu, q4, Nod.av, Nod.c]; rfl) ?_
          refine goes_done ?_
          (try simp only [vq, if_true, reduceIte, Nat.reduceEqDiff, reduceCtorEq])
          repeat (first | ((first | refine zd ?_ | refine zx ?_ | refine zk ?_ | refine zl ?_ | refine zr ?_); refine zq ?_) | refine zs ?_ | refine zg ?_ | refine zb ?_ | refine zo ?_ | refine zt ?_ | refine zf ?_)
          have huw := iid_uni w.deps
          refine awp_loop (fun z st => ∃ (j : Nat) (b : Bool), z = w.deps.length - j ∧ j ≤ w.deps.length ∧ (b = true ↔ (∀ y ∈ g.take k, ∀ e ∈ dpOf l y, e ∈ now ∨ e ∈ g) ∧ ∀ e ∈ w.deps.take j, e ∈ now ∨ e ∈ g) ∧ st.le ⟨Try.f15.ntmps, [(0, .list (l.map Nod.av) t), (1, .list (dn.map Iid.av) td), (5, .list (outs.map lv) tok), (6, .list (rs.map Iid.av) .no), (7, .list (now.map Iid.av) (.own (h.length + d))), (8, iv (-1)), (9, iv (i : Nat)), (10, .list (g.map Iid.av) .no), (11, .bool b), (12, iv (k : Nat)), (13, .list (w.deps.map Iid.av) .no), (14, iv (j : Nat))], h ++ X⟩) w.deps.length ?_ ?_
          rotate_left
          rintro z st ⟨j, b, rfl, hj, hb, hle⟩
          · refine awp_le hle ?_
            clear hle
            by_cases h7 : j = w.deps.length
            · subst h7
              have q5 : ¬ (w.deps.length : Int) < (w.deps.length : Int) := by omega
              rw [List.take_length] at hb
              repeat (first | ((first | refine zd ?_ | refine zx ?_ | refine zk ?_ | refine zl ?_ | refine zr ?_); refine zq ?_) | refine zs ?_ | refine zh (by simp -implicitDefEqProofs (disch := (first | omega | (simp; done) | fail)) [if_pos, if_neg, wrap_i64, tmod_pos, tdiv_pos, Int.toNat_add, q5]; rfl) ?_ | refine zb ?_ | refine zo ?_ | refine zt ?_ | refine zf ?_)
              refine ⟨g.length - (k + 1), by omega, k + 1, b, rfl, hlk, ?_, st_keep' (by simp []) (by simp [])⟩
              rw [hb, ← e2]
              refine ⟨fun ⟨h1, h2⟩ z hz => ?_, fun h1 => ⟨fun z hz => h1 z ((htk z).2 (.inl hz)), h1 y ((htk y).2 (.inr rfl))⟩⟩
              rcases (htk z).1 hz with h3 | rfl
              · exact h1 z h3
              · exact h2
            · have hlj : j < w.deps.length := by omega
              have q5 : (j : Int) < (w.deps.length : Int) := by omega
              have hx5 : (w.deps.map Iid.av)[j]? = some (Iid.av w.deps[j]) := by simp [hlj]
              have htj : ∀ z, z ∈ w.deps.take (j + 1) ↔ z ∈ w.deps.take j ∨ z = w.deps[j] := fun z => by rw [List.take_succ_eq_append_getElem hlj, List.mem_append, List.mem_singleton]
              generalize w.deps[j] = e at *
              have hh1 := fun h => rhas_ok now e .no (by omega) h
              have hh2 := fun h => rhas_ok g e .no (by omega) h
              unfold Iid.av at hh1 hh2
              rw [show (fun x => AV.agg (Iid.c x)) = Iid.av from rfl] at hh1 hh2
              unfold Iid.c at hh1 hh2
              refine awp_seq ?_
              refine awp_seq ?_
              refine zh (by simp -implicitDefEqProofs (disch := (first | omega | (simp; done) | fail)) [if_pos, if_neg, wrap_i64, tmod_pos, tdiv_pos, Int.toNat_add, q5]; rfl) ?_
              refine goes_done ?_
              (try simp only [vq, if_true, reduceIte, Nat.reduceEqDiff, reduceCtorEq])
              refine awp_cond_t rfl ?_
              refine awp_skip ?_
              simp only [vq, if_true, reduceIte, Nat.reduceEqDiff, reduceCtorEq]
              refine awp_seq ?_
              refine awp_block ?_
              cases b with
              | false =>
                repeat (first | ((first | refine zd ?_ | refine zx ?_ | refine zk ?_ | refine zl ?_ | refine zr ?_); refine zq ?_) | refine zs ?_ | refine zg ?_ | refine zb ?_ | refine zo ?_ | refine zt ?_ | refine zf ?_)
                refine ⟨w.deps.length - (j + 1), by omega, j + 1, false, rfl, hlj, ⟨fun h => (by cases h), fun ⟨h1, h2⟩ => hb.2 ⟨h1, fun z hz => h2 z ((htj z).2 (.inl hz))⟩⟩, st_keep' (by simp []) (by simp [])⟩
              | true =>
                obtain ⟨hb1, hb2⟩ := hb.1 rfl
                repeat (first | ((first | refine zd ?_ | refine zx ?_ | refine zk ?_ | refine zl ?_ | refine zr ?_); refine zq ?_) | refine zs ?_ | refine zh (by simp -implicitDefEqProofs (disch := (first | omega | (simp; done) | fail)) [if_pos, if_neg, wrap_i64, tmod_pos, tdiv_pos, Int.toNat_add, hx5, huw, q5, Iid.av, Iid.c]; rfl) ?_ | refine zb ?_ | refine zo ?_ | refine zt ?_ | refine zf ?_)
                refine zp (callable_of Try.func37) _ (hh1 _) ?_
                rintro _ _ ⟨rfl, rfl⟩
                by_cases hen : e ∈ now
                · have hc : now.contains e = true := by simpa using hen
                  rw [hc]
                  refine ze ?_
                  refine goes_done ?_
                  (try simp only [vq, if_true, reduceIte, Nat.reduceEqDiff, reduceCtorEq])
                  repeat (first | ((first | refine zd ?_ | refine zx ?_ | refine zk ?_ | refine zl ?_ | refine zr ?_); refine zq ?_) | refine zs ?_ | refine zg ?_ | refine zb ?_ | refine zo ?_ | refine zt ?_ | refine zf ?_)
                  refine ⟨w.deps.length - (j + 1), by omega, j + 1, true, rfl, hlj, ⟨fun _ => ⟨hb1, fun z hz => ?_⟩, fun _ => rfl⟩, st_keep' (by simp []) (by simp [])⟩
                  rcases (htj z).1 hz with h3 | rfl
                  · exact hb2 z h3
                  · exact .inl hen
                · have hc : now.contains e = false := by simpa using hen
                  rw [hc]
                  refine goes_eq (by simp -implicitDefEqProofs (disch := (first | omega | (simp; done) | fail)) [if_pos, if_neg, wrap_i64, tmod_pos, tdiv_pos, Int.toNat_add, hx5, huw, q5, Iid.av, Iid.c]; rfl) ?_
                  refine zp (callable_of Try.func37) _ (hh2 _) ?_
                  rintro _ _ ⟨rfl, rfl⟩
                  obtain ⟨b2, hb3⟩ : ∃ b, b = g.contains e := ⟨_, rfl⟩
                  have hb4 : b2 = true ↔ e ∈ g := by rw [hb3]; simp
                  rw [← hb3]
                  refine ze ?_
                  refine goes_done ?_
                  (try simp only [vq, if_true, reduceIte, Nat.reduceEqDiff, reduceCtorEq])
                  repeat (first | ((first | refine zd ?_ | refine zx ?_ | refine zk ?_ | refine zl ?_ | refine zr ?_); refine zq ?_) | refine zs ?_ | refine zg ?_ | refine zb ?_ | refine zo ?_ | refine zt ?_ | refine zf ?_)
                  refine ⟨w.deps.length - (j + 1), by omega, j + 1, b2, rfl, hlj, ⟨fun h => ⟨hb1, fun z hz => ?_⟩, fun ⟨_, h2⟩ => hb4.2 ((h2 e ((htj e).2 (.inr rfl))).resolve_left hen)⟩, st_keep' (by simp []) (by simp [])⟩
                  rcases (htj z).1 hz with h3 | rfl
                  · exact hb2 z h3
                  · exact .inr (hb4.1 h)
          · exact ⟨0, b, rfl, by omega, by simpa using hb, st_keep' (by simp []) (by simp [])⟩
      · exact ⟨0, true, rfl, by omega, by simp, st_keep' (by simp []) (by simp [])⟩
    · exact ⟨0, -1, outs, now, left, tok, d, X, rfl, by omega, R, hnl, hll, ht, hd, .inl ⟨rfl, hL0.symm, fun j x hj => absurd hj (by omega)⟩, st_keep' (by simp []) (by simp [])⟩
  · refine ⟨[], dn, gs, .full, XR.length, XR ++ [.tail 25 3], rfl, R0, by omega, by simpa using hgl, .inl rfl, by simp, st_keep' (by simp []) (by simp [])⟩
end Go.Proofs.Ytajgeofhlgoifaa.G

/- Graphs: in which order any nodes are done, which can be, and to which each leads, is just what the document says. -/
set_option linter.unusedVariables false
set_option linter.unusedSimpArgs false
set_option maxRecDepth 20000
set_option maxHeartbeats 4000000
namespace Go.Proofs.Ytajgeofhlgoifaa.G
open Go Go.Proofs.Ytajgeofhlgoifaa.V Go.Proofs.Ytajgeofhlgoifaa.I Go.Sort Go.RowKit
attribute [-simp] List.length_flatten List.map_flatten List.map_take List.map_drop
theorem rflat_ok (gs : List (List Iid)) (t : Tok) (hn : gs.length ≤ 1000) (hl : gs.flatten.length ≤ 1000) (h : AHeap) : ACalls Try.prog 23 [.list (gs.map lv) t] h fun r h' => r = lv gs.flatten ∧ ∃ X, h' = h ++ X := by
  have hu := lv_uni gs
  refine acalls_of_awp Try.func23 rfl (by simp only [List.length_cons, List.length_nil]; decide) ?_
  simp only [params_cons, params_nil]
  repeat (first | ((first | refine zd ?_ | refine zx ?_ | refine zk ?_ | refine zl ?_ | refine zr ?_); refine zq ?_) | refine zs ?_ | refine zg ?_ | refine zb ?_ | refine zo ?_ | refine zt ?_ | refine zf ?_)
  refine awp_loop (fun z st => ∃ (i : Nat) (tok : Tok) (X : AHeap), z = gs.length - i ∧ i ≤ gs.length ∧ TokZ h.length X 25 3 tok ∧ st.le ⟨Try.f23.ntmps, [(0, .list (gs.map lv) t), (3, .list ((gs.take i).flatten.map Iid.av) tok), (4, iv (i : Nat))], h ++ X⟩) gs.length ?_ ?_
  rotate_left
  rintro z st ⟨i, tok, X, rfl, hi, ht, hle⟩
  · refine awp_le hle ?_
    clear hle
    by_cases h9 : i = gs.length
    · subst h9
      have q : ¬ (gs.length : Int) < (gs.length : Int) := by omega
      rw [List.take_length]
      repeat (first | ((first | refine zd ?_ | refine zx ?_ | refine zk ?_ | refine zl ?_ | refine zr ?_); refine zq ?_) | refine zs ?_ | refine zh (by simp -implicitDefEqProofs (disch := (first | omega | (simp; done) | fail)) [if_pos, if_neg, wrap_i64, tmod_pos, tdiv_pos, Int.toNat_add, q]; rfl) ?_ | refine zb ?_ | refine zo ?_ | refine zt ?_ | refine zf ?_)
      first | refine body_all (.inr rfl) (by simp -implicitDefEqProofs; rfl) (by simp -implicitDefEqProofs; rfl) (by first | (simp; done) | (simp; omega) | omega) ?_ | refine body_all (.inl rfl) (by simp -implicitDefEqProofs; rfl) (by simp -implicitDefEqProofs; rfl) (by first | (simp; done) | (simp; omega) | omega) ?_
      exact ⟨rfl, _, rfl⟩
    · have hlt : i < gs.length := by omega
      have q : (i : Int) < (gs.length : Int) := by omega
      have hx2 : (gs.map lv)[i]? = some (lv gs[i]) := by simp [hlt]
      have htk : (gs.take (i + 1)).flatten = (gs.take i).flatten ++ gs[i] := by rw [List.take_succ_eq_append_getElem hlt, List.flatten_append]; simp
      have hfl := flat_take_le gs (i + 1)
      rw [htk, List.length_append] at hfl
      generalize gs[i] = g at *
      generalize (gs.take i).flatten = acc at *
      obtain ⟨q8, q9⟩ := nbig2 (n := acc.length + g.length) (by omega)
      have hog := av_onesL g
      have hoa := av_onesL acc
      have hug := iid_uni g
      have hua := iid_uni acc
      rcases ht with rfl | ⟨c, rfl, hc⟩
      · repeat (first | ((first | refine zd ?_ | refine zx ?_ | refine zk ?_ | refine zl ?_ | refine zr ?_); refine zq ?_) | refine zs ?_ | refine zh (by simp -implicitDefEqProofs (disch := (first | omega | (simp; done) | fail)) [if_pos, if_neg, wrap_i64, tmod_pos, tdiv_pos, Int.toNat_add, q, hx2, hu, lv, q8, q9, hog, hoa, hug, hua]; rfl) ?_ | refine zb ?_ | refine zo ?_ | refine zt ?_ | refine zf ?_)
        exact ⟨gs.length - (i + 1), by omega, i + 1, .own (h.length + X.length), X ++ [.tail 25 3], rfl, hlt, .inr ⟨X.length, rfl, by simp⟩, by rw [htk]; exact st_keep' (by simp []) (by simp [])⟩
      · repeat (first | ((first | refine zd ?_ | refine zx ?_ | refine zk ?_ | refine zl ?_ | refine zr ?_); refine zq ?_) | refine zs ?_ | refine zh (by simp -implicitDefEqProofs (disch := (first | omega | (simp; done) | fail)) [if_pos, if_neg, wrap_i64, tmod_pos, tdiv_pos, Int.toNat_add, q, hx2, hu, lv, q8, q9, hog, hoa, hug, hua, hc]; rfl) ?_ | refine zb ?_ | refine zo ?_ | refine zt ?_ | refine zf ?_)
        exact ⟨gs.length - (i + 1), by omega, i + 1, .own (h.length + X.length), X.set c .dead ++ [.tail 25 3], rfl, hlt, .inr ⟨X.length, rfl, by simp⟩, by rw [htk]; exact st_keep' (by simp []) (by simp [])⟩
  · exact ⟨0, .full, [], rfl, by omega, .inl rfl, st_keep' (by simp []) (by simp [])⟩
theorem order_any {l : List Nod} {dn : List Iid} (hs : Small l dn) (H : AHeap) : ACalls Try.prog 13 [.list (l.map Nod.av) .no, .list (dn.map Iid.av) .no] H fun r h' => ∃ (out : List (List Iid)) (X : AHeap), r = .list (out.map lv) .no ∧ h' = H ++ X ∧ (validB l = true → OrdOk l dn out) ∧ (validB l = false → out = []) ∧ out.length ≤ 14 ∧ out.flatten.length ≤ 14 ∧ (∀ g ∈ out, g ≠ []) ∧ ∀ g ∈ out, g.length ≤ 14 :=
  (order_ok l dn .no .no (by have := hs.len; omega) (by have := hs.dn; omega) hs.w H).mono fun r h' ⟨⟨X, h1⟩, h2, h3⟩ => by
    have h14 := hs.len
    rcases Bool.eq_false_or_eq_true (validB l) with hv | hv
    rotate_left
    · exact ⟨[], X, h2 hv, h1, fun e => absurd e (by rw [hv]; simp), fun _ => rfl, by simp, by simp, by simp, by simp⟩
    · obtain ⟨out, h4, h5⟩ := h3 hv
      refine ⟨out, X, h5, h1, fun _ => h4, fun e => absurd e (by rw [hv]; simp), Nat.le_trans h4.len h14, Nat.le_trans h4.flen h14, h4.ne, fun g hg => ?_⟩
      have h1 : g.Nodup := flat_nd h4.nd g hg
      have := can_len h1 fun x hx => (h4.mem x).1 (List.mem_flatten.2 ⟨g, hg, hx⟩)
      omega
theorem orders_law (l : List Nod) (dn : List Iid) (f : Iid) (h : AHeap) : ACalls Try.prog 3 [.list (l.map Nod.av) .no, .list (dn.map Iid.av) .no, Iid.av f] h fun r h' => r = .bool true ∧ h' = h := by
  have hu := nod_uni l
  have hov := fun h => over_ok l dn .no .no h
  show ACalls _ _ [.list (l.map Nod.av) .no, .list (dn.map Iid.av) .no, .agg [iv f.e, iv f.n, iv f.o]] _ _
  refine acalls_of_awp Try.func3 rfl (by simp only [List.length_cons, List.length_nil]; decide) ?_
  simp only [params_cons, params_nil]
  refine awp_seq ?_
  refine zg ?_
  refine goes_done ?_
  (try simp only [vq, if_true, reduceIte, Nat.reduceEqDiff, reduceCtorEq])
  refine awp_hard (id := h.length) (by simp -implicitDefEqProofs; rfl) ?_
  simp -implicitDefEqProofs only [Slots.melt, AV.melt, Nat.add_left_cancel_iff, Nat.add_eq_left, Nat.left_eq_add, Nat.reduceEqDiff, reduceIte, Nat.succ_ne_self, Nat.one_ne_zero, Nat.zero_ne_one, List.set_append_right, List.set_append_left, Nat.sub_self, Nat.le_refl, Nat.add_sub_cancel_left, Nat.le_add_right, List.set_cons_zero, List.set_cons_succ]
  refine awp_seq ?_
  repeat (first | ((first | refine zd ?_ | refine zx ?_ | refine zk ?_ | refine zl ?_ | refine zr ?_); refine zq ?_) | refine zs ?_ | refine zg ?_ | refine zb ?_ | refine zo ?_ | refine zt ?_ | refine zf ?_)
  refine zp (callable_of Try.func10) _ (works_ok _) ?_
  rintro _ _ ⟨rfl, XW, rfl⟩
  refine ze ?_
  refine goes_done ?_
  (try simp only [vq, if_true, reduceIte, Nat.reduceEqDiff, reduceCtorEq])
  repeat (first | ((first | refine zd ?_ | refine zx ?_ | refine zk ?_ | refine zl ?_ | refine zr ?_); refine zq ?_) | refine zs ?_ | refine zg ?_ | refine zb ?_ | refine zo ?_ | refine zt ?_ | refine zf ?_)
  refine zp (callable_of Try.func11) _ (hov _) ?_
  rintro _ _ ⟨rfl, rfl⟩
  rcases Bool.eq_false_or_eq_true (overB l dn) with ho | ho
  · rw [ho]
    refine ze ?_
    repeat (first | ((first | refine zd ?_ | refine zx ?_ | refine zk ?_ | refine zl ?_ | refine zr ?_); refine zq ?_) | refine zs ?_ | refine zg ?_ | refine zb ?_ | refine zo ?_ | refine zt ?_ | refine zf ?_)
    first | refine zy (.inr rfl) ?_ | refine zy (.inl rfl) ?_
    simp
  rw [ho]
  have hs := small_of ho
  have hs0 : Small l [] := ⟨hs.len, by simp, hs.dep⟩
  have h14 := hs.len
  have hd14 := hs.dn
  have hva := fun h => valid_ok l .no (by omega) h
  have hrv := fun h => rvalid_ok l .no (by omega) h
  have hof := fun h => of12_ok l .no (by omega) h
  have hor := fun H => order_any hs H
  refine ze ?_
  refine goes_done ?_
  (try simp only [vq, if_true, reduceIte, Nat.reduceEqDiff, reduceCtorEq])
  repeat (first | ((first | refine zd ?_ | refine zx ?_ | refine zk ?_ | refine zl ?_ | refine zr ?_); refine zq ?_) | refine zs ?_ | refine zg ?_ | refine zb ?_ | refine zo ?_ | refine zt ?_ | refine zf ?_)
  refine zp (callable_of Try.func12) _ (hof _) ?_
  rintro _ _ ⟨rfl, XO, rfl⟩
  refine ze ?_
  refine goes_done ?_
  (try simp only [vq, if_true, reduceIte, Nat.reduceEqDiff, reduceCtorEq])
  repeat (first | ((first | refine zd ?_ | refine zx ?_ | refine zk ?_ | refine zl ?_ | refine zr ?_); refine zq ?_) | refine zs ?_ | refine zg ?_ | refine zb ?_ | refine zo ?_ | refine zt ?_ | refine zf ?_)
  refine zp (callable_of Try.func13) _ (hor _) ?_
  rintro _ _ ⟨out, XR, rfl, rfl, hO1, hO2, hol, hofl, hone, hog⟩
  refine ze ?_
  refine goes_done ?_
  (try simp only [vq, if_true, reduceIte, Nat.reduceEqDiff, reduceCtorEq])
  repeat (first | ((first | refine zd ?_ | refine zx ?_ | refine zk ?_ | refine zl ?_ | refine zr ?_); refine zq ?_) | refine zs ?_ | refine zg ?_ | refine zb ?_ | refine zo ?_ | refine zt ?_ | refine zf ?_)
  refine zp (callable_of Try.func14) _ (hrv _) ?_
  rintro _ _ ⟨rfl, rfl⟩
  refine ze ?_
  refine goes_done ?_
  (try simp only [vq, if_true, reduceIte, Nat.reduceEqDiff, reduceCtorEq])
  refine awp_seq ?_
  refine AWP.mono (Q := fun e st => e = .normal ∧ ∃ (tok : Tok) (X : AHeap), st.le ⟨Try.f3.ntmps, [(0, .list (l.map Nod.av) .no), (1, .list (dn.map Iid.av) .no), (5, .ref [iv f.e, iv f.n, iv f.o] 0), (7, .bool true), (8, .list (l.map Nod.av) .no), (9, .list (out.map lv) .no), (10, .list (out.map lv) tok), (11, .bool (validB l))], h ++ X⟩) ?_ ?_
  · rcases Bool.eq_false_or_eq_true (validB l) with hv | hv
    rotate_left
    · have hz := hO2 hv
      rw [hv]
      subst hz
      repeat (first | ((first | refine zd ?_ | refine zx ?_ | refine zk ?_ | refine zl ?_ | refine zr ?_); refine zq ?_) | refine zs ?_ | refine zg ?_ | refine zb ?_ | refine zo ?_ | refine zt ?_ | refine zf ?_)
      exact ⟨trivial, .full, .dead :: (XW ++ (XO ++ XR)), by rw [List.map_nil]; exact st_keep' (by simp []) (by simp [])⟩
    · have hro := fun H => rorder_ok l dn out .no .no hs0 hv (by omega) (hO1 hv) H
      rw [hv]
      repeat (first | ((first | refine zd ?_ | refine zx ?_ | refine zk ?_ | refine zl ?_ | refine zr ?_); refine zq ?_) | refine zs ?_ | refine zg ?_ | refine zb ?_ | refine zo ?_ | refine zt ?_ | refine zf ?_)
      refine zp (callable_of Try.func15) _ (hro _) ?_
      rintro _ _ ⟨XZ, rfl, rfl⟩
      refine ze ?_
      refine goes_done ?_
      (try simp only [vq, if_true, reduceIte, Nat.reduceEqDiff, reduceCtorEq])
      repeat (first | ((first | refine zd ?_ | refine zx ?_ | refine zk ?_ | refine zl ?_ | refine zr ?_); refine zq ?_) | refine zs ?_ | refine zg ?_ | refine zb ?_ | refine zo ?_ | refine zt ?_ | refine zf ?_)
      exact ⟨trivial, .no, .dead :: (XW ++ (XO ++ (XR ++ XZ))), st_keep' (by simp []) (by simp [])⟩
  rintro e st ⟨rfl, tok, X, hle⟩
  refine awp_le hle ?_
  clear hle
  have huo := lv_uni out
  have hre := fun H => reach_ok l f .no (by omega) (hs.w f) H
  have hrr := fun H => rreach_ok l f .no hs0 H
  have hrd := fun H => readyF_ok l dn .no .no (by omega) (by omega) hs.w H
  have hrs := fun H => rready_ok l dn .no .no hs0 (by omega) H
  have hfa := fun H => flatG_ok out .no (by omega) hone (by omega) H
  have hfb := fun H => rflat_ok out .no (by omega) (by omega) H
  have hru := fun (g : List Iid) (hg : g.length ≤ 100000) H => row_ok g g .no .no hg H
  unfold Iid.av Iid.c at hre hrr
  clear hO1 hO2 hov hof hor hrv
  repeat (first | ((first | refine zd ?_ | refine zx ?_ | refine zk ?_ | refine zl ?_ | refine zr ?_); refine zq ?_) | refine zs ?_ | refine zg ?_ | refine zb ?_ | refine zo ?_ | refine zt ?_ | refine zf ?_)
  refine zp (callable_of Try.func16) _ (hva _) ?_
  rintro _ _ ⟨rfl, XV, rfl⟩
  refine ze ?_
  refine goes_done ?_
  (try simp only [vq, if_true, reduceIte, Nat.reduceEqDiff, reduceCtorEq])
  repeat (first | ((first | refine zd ?_ | refine zx ?_ | refine zk ?_ | refine zl ?_ | refine zr ?_); refine zq ?_) | refine zs ?_ | refine zg ?_ | refine zb ?_ | refine zo ?_ | refine zt ?_ | refine zf ?_)
  refine awp_loop (fun z st => ∃ (i : Nat) (X : AHeap), z = out.length - i ∧ i ≤ out.length ∧ st.le ⟨Try.f3.ntmps, [(0, .list (l.map Nod.av) .no), (1, .list (dn.map Iid.av) .no), (5, .ref [iv f.e, iv f.n, iv f.o] 0), (7, .bool true), (8, .list (l.map Nod.av) .no), (9, .list (out.map lv) .no), (10, .list (out.map lv) tok), (12, iv (i : Nat))], h ++ X⟩) out.length ?_ ?_
  rotate_left
  rintro z st ⟨i, X, rfl, hi, hle⟩
  · refine awp_le hle ?_
    clear hle
    by_cases h9 : i = out.length
    · subst h9
      have q : ¬ (out.length : Int) < (out.length : Int) := by omega
      repeat (first | ((first | refine zd ?_ | refine zx ?_ | refine zk ?_ | refine zl ?_ | refine zr ?_); refine zq ?_) | refine zs ?_ | refine zh (by simp -implicitDefEqProofs (disch := (first | omega | (simp; done) | fail)) [if_pos, if_neg, wrap_i64, tmod_pos, tdiv_pos, Int.toNat_add, q]; rfl) ?_ | refine zb ?_ | refine zo ?_ | refine zt ?_ | refine zf ?_)
      refine awp_draw (.q 0 (.q 1 (.q 3 (.q 4 (.a 2 (.a 5 (.a 6 (.q 7 (.done))))))))) (by kernel_rfl) (by kernel_rfl) (tree_start (goesT_eq (by simp -implicitDefEqProofs (disch := (first | omega | (simp; done) | fail)) [if_pos, if_neg, wrap_i64, tmod_pos, tdiv_pos, Int.toNat_add]; rfl) ?_))
      refine zP (callable_of Try.func18) _ (hre _) ?_
      rintro _ _ ⟨rs, XA, rfl, rfl, a1, a2⟩
      refine goesT_eq (by simp -implicitDefEqProofs (disch := (first | omega | (simp; done) | fail)) [if_pos, if_neg, wrap_i64, tmod_pos, tdiv_pos, Int.toNat_add, lv]; rfl) ?_
      refine zP (callable_of Try.func19) _ (hrr _) ?_
      rintro _ _ ⟨rs2, XB, rfl, rfl, b1, b2⟩
      obtain ⟨hrl, rfl⟩ : rs.length ≤ 196 ∧ rs = rs2 := by
        rcases Bool.eq_false_or_eq_true (validB l) with hv | hv
        rotate_left
        · rw [a1 hv, b1 hv]; simp
        · obtain ⟨c1, c2⟩ := a2 hv
          obtain ⟨d1, d2⟩ := b2 hv
          exact ⟨Nat.le_trans (lead_len (ris_nodup0 c1) fun y hy => (c2 y).1 hy) hs.sum, ris_unique c1 d1 fun y => (c2 y).trans (d2 y).symm⟩
      have hr1 := fun H => hru rs (by omega) H
      refine goesT_eq (by simp -implicitDefEqProofs (disch := (first | omega | (simp; done) | fail)) [if_pos, if_neg, wrap_i64, tmod_pos, tdiv_pos, Int.toNat_add, lv]; rfl) ?_
      refine zP (callable_of Try.func17) _ (hr1 _) ?_
      rintro _ _ ⟨rfl, rfl⟩
      refine zE ?_
      refine goesT_done ?_
      (try simp only [vq, if_true, reduceIte, Nat.reduceEqDiff, reduceCtorEq])
      repeat (first | ((first | refine zd ?_ | refine zx ?_ | refine zk ?_ | refine zl ?_ | refine zr ?_); refine zq ?_) | refine zs ?_ | refine zg ?_ | refine zb ?_ | refine zo ?_ | refine zt ?_ | refine zf ?_)
      refine zp (callable_of Try.func20) _ (hrd _) ?_
      rintro _ _ ⟨ts, XC, rfl, rfl, e1, e2⟩
      refine goes_eq (by simp -implicitDefEqProofs (disch := (first | omega | (simp; done) | fail)) [if_pos, if_neg, wrap_i64, tmod_pos, tdiv_pos, Int.toNat_add, lv]; rfl) ?_
      refine zp (callable_of Try.func21) _ (hrs _) ?_
      rintro _ _ ⟨ts2, XD, rfl, rfl, f1, f2⟩
      obtain ⟨htl, rfl⟩ : ts.length ≤ 14 ∧ ts = ts2 := by
        rcases Bool.eq_false_or_eq_true (validB l) with hv | hv
        rotate_left
        · rw [e1 hv, f1 hv]; simp
        · obtain ⟨c1, c2⟩ := e2 hv
          obtain ⟨d1, d2⟩ := f2 hv
          exact ⟨Nat.le_trans (can_len (ris_nodup0 c1) fun y hy => (c2 y).1 hy) h14, ris_unique c1 d1 fun y => (c2 y).trans (d2 y).symm⟩
      have hr2 := fun H => hru ts (by omega) H
      refine goes_eq (by simp -implicitDefEqProofs (disch := (first | omega | (simp; done) | fail)) [if_pos, if_neg, wrap_i64, tmod_pos, tdiv_pos, Int.toNat_add, lv]; rfl) ?_
      refine zp (callable_of Try.func17) _ (hr2 _) ?_
      rintro _ _ ⟨rfl, rfl⟩
      refine ze ?_
      refine goes_done ?_
      (try simp only [vq, if_true, reduceIte, Nat.reduceEqDiff, reduceCtorEq])
      repeat (first | ((first | refine zd ?_ | refine zx ?_ | refine zk ?_ | refine zl ?_ | refine zr ?_); refine zq ?_) | refine zs ?_ | refine zg ?_ | refine zb ?_ | refine zo ?_ | refine zt ?_ | refine zf ?_)
      refine zp (callable_of Try.func22) _ (hfa _) ?_
      rintro _ _ ⟨rfl, XE, rfl⟩
      refine goes_eq (by simp -implicitDefEqProofs (disch := (first | omega | (simp; done) | fail)) [if_pos, if_neg, wrap_i64, tmod_pos, tdiv_pos, Int.toNat_add, lv]; rfl) ?_
      refine zp (callable_of Try.func23) _ (hfb _) ?_
      rintro _ _ ⟨rfl, XF, rfl⟩
      have hr3 := fun H => hru out.flatten (by omega) H
      refine goes_eq (by simp -implicitDefEqProofs (disch := (first | omega | (simp; done) | fail)) [if_pos, if_neg, wrap_i64, tmod_pos, tdiv_pos, Int.toNat_add, lv]; rfl) ?_
      refine zp (callable_of Try.func17) _ (hr3 _) ?_
      rintro _ _ ⟨rfl, rfl⟩
      refine ze ?_
      refine goes_done ?_
      (try simp only [vq, if_true, reduceIte, Nat.reduceEqDiff, reduceCtorEq])
      repeat (first | ((first | refine zd ?_ | refine zx ?_ | refine zk ?_ | refine zl ?_ | refine zr ?_); refine zq ?_) | refine zs ?_ | refine zg ?_ | refine zb ?_ | refine zo ?_ | refine zt ?_ | refine zf ?_)
      first | refine zy (.inr rfl) ?_ | refine zy (.inl rfl) ?_
      simp
    · have hlt : i < out.length := by omega
      have q : (i : Int) < (out.length : Int) := by omega
      have hx2 : (out.map lv)[i]? = some (lv out[i]) := by simp [hlt]
      have hgl : out[i].length ≤ 14 := hog _ (List.getElem_mem hlt)
      generalize out[i] = g at *
      have hrw := fun H => hru g (by omega) H
      refine awp_seq ?_
      refine awp_seq ?_
      refine zh (by simp -implicitDefEqProofs (disch := (first | omega | (simp; done) | fail)) [if_pos, if_neg, wrap_i64, tmod_pos, tdiv_pos, Int.toNat_add, q]; rfl) ?_
      refine goes_done ?_
      (try simp only [vq, if_true, reduceIte, Nat.reduceEqDiff, reduceCtorEq])
      refine awp_cond_t rfl ?_
      refine awp_skip ?_
      simp only [vq, if_true, reduceIte, Nat.reduceEqDiff, reduceCtorEq]
      refine awp_seq ?_
      refine awp_block ?_
      refine awp_seq ?_
      refine awp_draw (.q 0 (.q 1 (.q 2 (.q 3 (.q 4 (.q 5 (.q 6 (.q 7 (.a 8 (.q 9 (.done))))))))))) (by kernel_rfl) (by kernel_rfl) (tree_start (goesT_eq (by simp -implicitDefEqProofs (disch := (first | omega | (simp; done) | fail)) [if_pos, if_neg, wrap_i64, tmod_pos, tdiv_pos, Int.toNat_add, q, huo, hx2, lv]; rfl) ?_))
      refine zP (callable_of Try.func17) _ (hrw _) ?_
      rintro _ _ ⟨rfl, rfl⟩
      refine zE ?_
      refine goesT_done ?_
      (try simp only [vq, if_true, reduceIte, Nat.reduceEqDiff, reduceCtorEq])
      repeat (first | ((first | refine zd ?_ | refine zx ?_ | refine zk ?_ | refine zl ?_ | refine zr ?_); refine zq ?_) | refine zs ?_ | refine zg ?_ | refine zb ?_ | refine zo ?_ | refine zt ?_ | refine zf ?_)
      exact ⟨out.length - (i + 1), by omega, i + 1, X, rfl, hlt, st_keep' (by simp []) (by simp [])⟩
  · exact ⟨0, X ++ XV, rfl, by omega, st_keep' (by simp []) (by simp [])⟩
end Go.Proofs.Ytajgeofhlgoifaa.G

/- Graphs: the walk of a law: the order is what the document says. -/
set_option linter.unusedVariables false
set_option linter.unusedSimpArgs false
namespace Go.Proofs.Ytajgeofhlgoifaa.G
open Go Go.Proofs.Ytajgeofhlgoifaa.V Go.Proofs.Ytajgeofhlgoifaa.I Go.RowKit
theorem walk_GraphOrders (x0 : Came) {w : World} (f0 : NodsAt w x0.v) (x1 : Came) (f1 : IdsAt w x1.v) (x2 : Came) (f2 : IdAt w x2.v) :
    Calls Try.prog 3 #[x0.v, x1.v, x2.v] w fun e w' => e = .returned (.bool true) ∧ Below w.heap.size w w' := by
  obtain ⟨a, ha⟩ := f0
  obtain ⟨b, hb⟩ := f1
  obtain ⟨c, hc⟩ := f2
  exact Law.calls (orders_law a b c []) w (vals_of (cells_cons ha (cells_cons hb (cells_cons hc (cells_nil _)))))
end Go.Proofs.Ytajgeofhlgoifaa.G
