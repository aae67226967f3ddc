import Derived.Test.YtajgeofhlgoifaaGF
/- Graphs: what is done is not ordered again. -/
set_option linter.unusedVariables false
set_option linter.unusedSimpArgs false
set_option maxRecDepth 20000
namespace Go.Proofs.Ytajgeofhlgoifaa.G
open Go Go.Proofs.Ytajgeofhlgoifaa.V Go.Proofs.Ytajgeofhlgoifaa.I Go.Sort Go.RowKit
attribute [-simp] List.length_flatten List.map_flatten
theorem done_law (l : List Nod) (dn : List Iid) (h : AHeap) : ACalls Try.prog 8 [.list (l.map Nod.av) .no, .list (dn.map Iid.av) .no] h fun r h' => r = .bool true ∧ h' = h := by
  have hu := nod_uni l
  have hov := fun h => over_ok l dn .no .no h
  refine acalls_of_awp Try.func8 rfl (by simp only [List.length_cons, List.length_nil]; decide) ?_
  simp only [params_cons, params_nil]
  refine awp_seq ?_
  refine zg ?_
  refine goes_done ?_
  (try simp only [vq, if_true, reduceIte, Nat.reduceEqDiff, reduceCtorEq])
  refine awp_seq ?_
  repeat (first | ((first | refine zd ?_ | refine zx ?_ | refine zk ?_ | refine zl ?_ | refine zr ?_); refine zq ?_) | refine zs ?_ | refine zg ?_ | refine zb ?_ | refine zo ?_ | refine zt ?_ | refine zf ?_)
  refine zp (callable_of Try.func10) _ (works_ok _) ?_
  rintro _ _ ⟨rfl, XW, rfl⟩
  refine ze ?_
  refine goes_done ?_
  (try simp only [vq, if_true, reduceIte, Nat.reduceEqDiff, reduceCtorEq])
  repeat (first | ((first | refine zd ?_ | refine zx ?_ | refine zk ?_ | refine zl ?_ | refine zr ?_); refine zq ?_) | refine zs ?_ | refine zg ?_ | refine zb ?_ | refine zo ?_ | refine zt ?_ | refine zf ?_)
  refine zp (callable_of Try.func11) _ (hov _) ?_
  rintro _ _ ⟨rfl, rfl⟩
  cases ho : overB l dn with
  | true =>
    refine ze ?_
    repeat (first | ((first | refine zd ?_ | refine zx ?_ | refine zk ?_ | refine zl ?_ | refine zr ?_); refine zq ?_) | refine zs ?_ | refine zg ?_ | refine zb ?_ | refine zo ?_ | refine zt ?_ | refine zf ?_)
    first | refine zy (.inr rfl) ?_ | refine zy (.inl rfl) ?_
    simp
  | false =>
    have hs := small_of ho
    have h14 := hs.len
    have hva := fun h => valid_ok l .no (by omega) h
    have hd14 := hs.dn
    refine ze ?_
    refine zp (callable_of Try.func16) _ (hva _) ?_
    rintro _ _ ⟨rfl, XV, rfl⟩
    cases hv : validB l with
    | false =>
      refine ze ?_
      repeat (first | ((first | refine zd ?_ | refine zx ?_ | refine zk ?_ | refine zl ?_ | refine zr ?_); refine zq ?_) | refine zs ?_ | refine zg ?_ | refine zb ?_ | refine zo ?_ | refine zt ?_ | refine zf ?_)
      first | refine zy (.inr rfl) ?_ | refine zy (.inl rfl) ?_
      simp
    | true =>
      have hor := fun h => order_ok l dn .no .no (by omega) (by omega) hs.w h
      refine ze ?_
      repeat (first | ((first | refine zd ?_ | refine zx ?_ | refine zk ?_ | refine zl ?_ | refine zr ?_); refine zq ?_) | refine zs ?_ | refine zg ?_ | refine zb ?_ | refine zo ?_ | refine zt ?_ | refine zf ?_)
      refine zp (callable_of Try.func13) _ (hor _) ?_
      rintro _ _ ⟨⟨XO, rfl⟩, -, hr⟩
      obtain ⟨out, hO, rfl⟩ := hr hv
      have hol := hO.len
      have hof := hO.flen
      have hfl := fun h => flatG_ok out .no (by omega) hO.ne (by omega) h
      have hfm := hO.mem
      generalize out.flatten = F at *
      refine ze ?_
      refine zp (callable_of Try.func22) _ (hfl _) ?_
      rintro _ _ ⟨rfl, XF, rfl⟩
      refine goes_eq (by simp -implicitDefEqProofs (disch := (first | omega | (simp; done) | fail)) [if_pos, if_neg, wrap_i64, tmod_pos, tdiv_pos, Int.toNat_add, lv]; rfl) ?_
      refine goes_done ?_
      (try simp only [vq, if_true, reduceIte, Nat.reduceEqDiff, reduceCtorEq])
      generalize XW ++ (XV ++ (XO ++ XF)) = X0
      refine awp_seq ?_
      refine awp_seq ?_
      refine zg ?_
      refine goes_done ?_
      (try simp only [vq, if_true, reduceIte, Nat.reduceEqDiff, reduceCtorEq])
      refine awp_block ?_
      refine awp_loop (fun z st => ∃ (i : Nat), z = l.length - i ∧ i ≤ l.length ∧ st.le ⟨Try.f8.ntmps, [(0, .list (l.map Nod.av) .no), (1, .list (dn.map Iid.av) .no), (5, .bool true), (6, .list (F.map Iid.av) .no), (7, iv (i : Nat))], h ++ X0⟩) l.length ?_ ?_
      rotate_left
      rintro z st ⟨i, rfl, hi, hle⟩
      · refine awp_le hle ?_
        clear hle
        by_cases h9 : i = l.length
        · subst h9
          have q : ¬ (l.length : Int) < (l.length : Int) := by omega
          repeat (first | ((first | refine zd ?_ | refine zx ?_ | refine zk ?_ | refine zl ?_ | refine zr ?_); refine zq ?_) | refine zs ?_ | refine zh (by simp -implicitDefEqProofs (disch := (first | omega | (simp; done) | fail)) [if_pos, if_neg, wrap_i64, tmod_pos, tdiv_pos, Int.toNat_add, q]; rfl) ?_ | refine zb ?_ | refine zo ?_ | refine zt ?_ | refine zf ?_)
          first | refine zy (.inr rfl) ?_ | refine zy (.inl rfl) ?_
          simp
        · have hlt : i < l.length := by omega
          have q : (i : Int) < (l.length : Int) := by omega
          have hx2 : (l.map Nod.av)[i]? = some (Nod.av l[i]) := by simp [hlt]
          obtain ⟨hdp, _⟩ := dp_at hv hlt
          have hxm : l[i].id ∈ l.map (·.id) := List.mem_map.2 ⟨l[i], List.getElem_mem hlt, rfl⟩
          have hxd : l[i].deps.length ≤ 14 := hs.dep _ (List.getElem_mem hlt)
          generalize l[i] = x at *
          have hat1 : ∀ H, ACalls Try.prog 24 [.list (dn.map Iid.av) .no, .agg [iv x.id.e, iv x.id.n, iv x.id.o]] H fun r h' => r = iv (idxI x.id dn) ∧ h' = H := fun H => at_ok dn x.id .no (by omega) H
          have hat2 : ∀ H, ACalls Try.prog 24 [.list (F.map Iid.av) .no, .agg [iv x.id.e, iv x.id.n, iv x.id.o]] H fun r h' => r = iv (idxI x.id F) ∧ h' = H := fun H => at_ok F x.id .no (by omega) H
          refine awp_seq ?_
          refine awp_seq ?_
          refine zh (by simp -implicitDefEqProofs (disch := (first | omega | (simp; done) | fail)) [if_pos, if_neg, wrap_i64, tmod_pos, tdiv_pos, Int.toNat_add, q]; rfl) ?_
          refine goes_done ?_
          (try simp only [vq, if_true, reduceIte, Nat.reduceEqDiff, reduceCtorEq])
          refine awp_cond_t rfl ?_
          refine awp_skip ?_
          simp only [vq, if_true, reduceIte, Nat.reduceEqDiff, reduceCtorEq]
          refine awp_seq ?_
          refine awp_block ?_
          refine awp_seq ?_
          repeat (first | ((first | refine zd ?_ | refine zx ?_ | refine zk ?_ | refine zl ?_ | refine zr ?_); refine zq ?_) | refine zs ?_ | refine zh (by simp -implicitDefEqProofs (disch := (first | omega | (simp; done) | fail)) [if_pos, if_neg, wrap_i64, tmod_pos, tdiv_pos, Int.toNat_add, hx2, hu, q, Nod.av, Nod.c]; rfl) ?_ | refine zb ?_ | refine zo ?_ | refine zt ?_ | refine zf ?_)
          refine zp (callable_of Try.func24) _ (hat1 _) ?_
          rintro _ _ ⟨rfl, rfl⟩
          refine ze ?_
          refine goes_done ?_
          (try simp only [vq, if_true, reduceIte, Nat.reduceEqDiff, reduceCtorEq])
          refine awp_seq ?_
          refine AWP.mono (Q := fun e st => e = .normal ∧ ∃ b : Bool, (b = true ↔ x.id ∉ dn ∧ ∀ y ∈ x.deps, y ∈ dn) ∧ st.le ⟨Try.f8.ntmps, [(0, .list (l.map Nod.av) .no), (1, .list (dn.map Iid.av) .no), (5, .bool true), (6, .list (F.map Iid.av) .no), (7, iv (i : Nat)), (8, .bool b)], h ++ X0⟩) ?_ ?_
          · refine awp_seq ?_
            refine zg ?_
            refine goes_done ?_
            (try simp only [vq, if_true, reduceIte, Nat.reduceEqDiff, reduceCtorEq])
            refine awp_block ?_
            refine awp_loop (fun z st => ∃ (k : Nat) (b : Bool), z = x.deps.length - k ∧ k ≤ x.deps.length ∧ (b = true ↔ x.id ∉ dn ∧ ∀ y ∈ x.deps.take k, y ∈ dn) ∧ st.le ⟨Try.f8.ntmps, [(0, .list (l.map Nod.av) .no), (1, .list (dn.map Iid.av) .no), (5, .bool true), (6, .list (F.map Iid.av) .no), (7, iv (i : Nat)), (8, .bool b), (9, iv (k : Nat))], h ++ X0⟩) x.deps.length ?_ ?_
            rotate_left
            rintro z st ⟨k, b, rfl, hk, hb, hle⟩
            · refine awp_le hle ?_
              clear hle
              by_cases h8 : k = x.deps.length
              · subst h8
                have qk : ¬ (x.deps.length : Int) < (x.deps.length : Int) := by omega
                rw [List.take_length] at hb
                refine awp_seq ?_
                refine awp_seq ?_
                refine zh (by simp -implicitDefEqProofs (disch := (first | omega | (simp; done) | fail)) [if_pos, if_neg, wrap_i64, tmod_pos, tdiv_pos, Int.toNat_add, hx2, hu, q, qk, Nod.av, Nod.c]; rfl) ?_
                refine goes_done ?_
                (try simp only [vq, if_true, reduceIte, Nat.reduceEqDiff, reduceCtorEq])
                refine awp_cond_f rfl ?_
                refine awp_exit ?_
                (try simp only [vq, if_true, reduceIte, Nat.reduceEqDiff, reduceCtorEq])
                exact ⟨trivial, b, hb, st_keep' (by simp []) (by simp [])⟩
              · have hkl : k < x.deps.length := by omega
                have qk : (k : Int) < (x.deps.length : Int) := by omega
                have hy2 : (x.deps.map Iid.av)[k]? = some (Iid.av x.deps[k]) := by simp [hkl]
                have huy : uni 3 (x.deps.map Iid.av) = true := uni_map fun _ => rfl
                have htk : ∀ y, y ∈ x.deps.take (k + 1) ↔ y ∈ x.deps.take k ∨ y = x.deps[k] := fun y => by rw [List.take_succ_eq_append_getElem hkl, List.mem_append, List.mem_singleton]
                generalize x.deps[k] = y at *
                have hat3 : ∀ H, ACalls Try.prog 24 [.list (dn.map Iid.av) .no, .agg [iv y.e, iv y.n, iv y.o]] H fun r h' => r = iv (idxI y dn) ∧ h' = H := fun H => at_ok dn y .no (by omega) H
                refine awp_seq ?_
                refine awp_seq ?_
                refine zh (by simp -implicitDefEqProofs (disch := (first | omega | (simp; done) | fail)) [if_pos, if_neg, wrap_i64, tmod_pos, tdiv_pos, Int.toNat_add, hx2, hu, q, qk, Nod.av, Nod.c]; rfl) ?_
                refine goes_done ?_
                (try simp only [vq, if_true, reduceIte, Nat.reduceEqDiff, reduceCtorEq])
                refine awp_cond_t rfl ?_
                refine awp_skip ?_
                simp only [vq, if_true, reduceIte, Nat.reduceEqDiff, reduceCtorEq]
                refine awp_seq ?_
                refine awp_block ?_
                cases b with
                | false =>
                  repeat (first | ((first | refine zd ?_ | refine zx ?_ | refine zk ?_ | refine zl ?_ | refine zr ?_); refine zq ?_) | refine zs ?_ | refine zh (by simp -implicitDefEqProofs (disch := (first | omega | (simp; done) | fail)) [if_pos, if_neg, wrap_i64, tmod_pos, tdiv_pos, Int.toNat_add, hx2, hu, q, qk, hy2, huy, Nod.av, Nod.c, Iid.av, Iid.c]; rfl) ?_ | refine zb ?_ | refine zo ?_ | refine zt ?_ | refine zf ?_)
                  refine ⟨x.deps.length - (k + 1), by omega, k + 1, false, rfl, hkl, ?_, st_keep' (by simp []) (by simp [])⟩
                  refine ⟨(fun e => by cases e), fun ⟨a1, a2⟩ => ?_⟩
                  exact hb.2 ⟨a1, fun w hw => a2 w ((htk w).2 (.inl hw))⟩
                | true =>
                  have hb2 := hb.1 rfl
                  repeat (first | ((first | refine zd ?_ | refine zx ?_ | refine zk ?_ | refine zl ?_ | refine zr ?_); refine zq ?_) | refine zs ?_ | refine zh (by simp -implicitDefEqProofs (disch := (first | omega | (simp; done) | fail)) [if_pos, if_neg, wrap_i64, tmod_pos, tdiv_pos, Int.toNat_add, hx2, hu, q, qk, hy2, huy, Nod.av, Nod.c, Iid.av, Iid.c]; rfl) ?_ | refine zb ?_ | refine zo ?_ | refine zt ?_ | refine zf ?_)
                  refine zp (callable_of Try.func24) _ (hat3 _) ?_
                  rintro _ _ ⟨rfl, rfl⟩
                  refine ze ?_
                  refine goes_done ?_
                  (try simp only [vq, if_true, reduceIte, Nat.reduceEqDiff, reduceCtorEq])
                  repeat (first | ((first | refine zd ?_ | refine zx ?_ | refine zk ?_ | refine zl ?_ | refine zr ?_); refine zq ?_) | refine zs ?_ | refine zg ?_ | refine zb ?_ | refine zo ?_ | refine zt ?_ | refine zf ?_)
                  refine ⟨x.deps.length - (k + 1), by omega, k + 1, decide (0 ≤ idxI y dn), rfl, hkl, ?_, st_keep' (by simp []) (by simp [])⟩
                  rw [decide_eq_true_eq, idx_ge]
                  refine ⟨fun e => ⟨hb2.1, fun w hw => ?_⟩, fun a => a.2 y ((htk y).2 (.inr rfl))⟩
                  rcases (htk w).1 hw with h | rfl
                  · exact hb2.2 w h
                  · exact e
            · refine ⟨0, decide (idxI x.id dn < 0), rfl, by omega, ?_, st_keep' (by simp []) (by simp [])⟩
              rw [decide_eq_true_eq, idx_lt]; simp
          · rintro e st2 ⟨rfl, b, hb, hle⟩
            simp only [vq, if_true, reduceIte, Nat.reduceEqDiff, reduceCtorEq]
            refine awp_le hle ?_
            clear hle
            have F2 : x.id ∈ dn → x.id ∉ F := fun h1 h2 => ((hfm x.id).1 h2).2.1 h1
            cases b with
            | true =>
              obtain ⟨b1, b2⟩ := hb.1 rfl
              have F1 : x.id ∈ F := (hfm x.id).2 (can_of hxm b1 (by rw [hdp]; exact b2))
              have e1 : ¬ idxI x.id F < 0 := by rw [idx_lt]; simpa using F1
              have e2 : ¬ 0 ≤ idxI x.id dn := by rw [idx_ge]; exact b1
              refine awp_seq ?_
              repeat (first | ((first | refine zd ?_ | refine zx ?_ | refine zk ?_ | refine zl ?_ | refine zr ?_); refine zq ?_) | refine zs ?_ | refine zh (by simp -implicitDefEqProofs (disch := (first | omega | (simp; done) | fail)) [if_pos, if_neg, wrap_i64, tmod_pos, tdiv_pos, Int.toNat_add, hx2, hu, q, Nod.av, Nod.c]; rfl) ?_ | refine zb ?_ | refine zo ?_ | refine zt ?_ | refine zf ?_)
              refine zp (callable_of Try.func24) _ (hat2 _) ?_
              rintro _ _ ⟨rfl, rfl⟩
              refine goes_eq (by simp -implicitDefEqProofs (disch := (first | omega | (simp; done) | fail)) [if_pos, if_neg, wrap_i64, tmod_pos, tdiv_pos, Int.toNat_add, e1, hx2, hu, q, Nod.av, Nod.c]; rfl) ?_
              refine zp (callable_of Try.func24) _ (hat1 _) ?_
              rintro _ _ ⟨rfl, rfl⟩
              refine goes_eq (by simp -implicitDefEqProofs (disch := (first | omega | (simp; done) | fail)) [if_pos, if_neg, wrap_i64, tmod_pos, tdiv_pos, Int.toNat_add, e2]; rfl) ?_
              refine goes_done ?_
              (try simp only [vq, if_true, reduceIte, Nat.reduceEqDiff, reduceCtorEq])
              repeat (first | ((first | refine zd ?_ | refine zx ?_ | refine zk ?_ | refine zl ?_ | refine zr ?_); refine zq ?_) | refine zs ?_ | refine zg ?_ | refine zb ?_ | refine zo ?_ | refine zt ?_ | refine zf ?_)
              exact ⟨l.length - (i + 1), by omega, i + 1, rfl, hlt, st_keep' (by simp []) (by simp [])⟩
            | false =>
              by_cases hxn : x.id ∈ dn
              · have e2 : 0 ≤ idxI x.id dn := idx_ge.2 hxn
                have e1 : ¬ 0 ≤ idxI x.id F := by rw [idx_ge]; exact F2 hxn
                refine awp_seq ?_
                repeat (first | ((first | refine zd ?_ | refine zx ?_ | refine zk ?_ | refine zl ?_ | refine zr ?_); refine zq ?_) | refine zs ?_ | refine zh (by simp -implicitDefEqProofs (disch := (first | omega | (simp; done) | fail)) [if_pos, if_neg, wrap_i64, tmod_pos, tdiv_pos, Int.toNat_add, hx2, hu, q, Nod.av, Nod.c]; rfl) ?_ | refine zb ?_ | refine zo ?_ | refine zt ?_ | refine zf ?_)
                refine zp (callable_of Try.func24) _ (hat1 _) ?_
                rintro _ _ ⟨rfl, rfl⟩
                refine goes_eq (by simp -implicitDefEqProofs (disch := (first | omega | (simp; done) | fail)) [if_pos, if_neg, wrap_i64, tmod_pos, tdiv_pos, Int.toNat_add, e2, hx2, hu, q, Nod.av, Nod.c]; rfl) ?_
                refine zp (callable_of Try.func24) _ (hat2 _) ?_
                rintro _ _ ⟨rfl, rfl⟩
                refine goes_eq (by simp -implicitDefEqProofs (disch := (first | omega | (simp; done) | fail)) [if_pos, if_neg, wrap_i64, tmod_pos, tdiv_pos, Int.toNat_add, e1]; rfl) ?_
                refine goes_done ?_
                (try simp only [vq, if_true, reduceIte, Nat.reduceEqDiff, reduceCtorEq])
                repeat (first | ((first | refine zd ?_ | refine zx ?_ | refine zk ?_ | refine zl ?_ | refine zr ?_); refine zq ?_) | refine zs ?_ | refine zg ?_ | refine zb ?_ | refine zo ?_ | refine zt ?_ | refine zf ?_)
                exact ⟨l.length - (i + 1), by omega, i + 1, rfl, hlt, st_keep' (by simp []) (by simp [])⟩
              · have e2 : ¬ 0 ≤ idxI x.id dn := by rw [idx_ge]; exact hxn
                refine awp_seq ?_
                repeat (first | ((first | refine zd ?_ | refine zx ?_ | refine zk ?_ | refine zl ?_ | refine zr ?_); refine zq ?_) | refine zs ?_ | refine zh (by simp -implicitDefEqProofs (disch := (first | omega | (simp; done) | fail)) [if_pos, if_neg, wrap_i64, tmod_pos, tdiv_pos, Int.toNat_add, hx2, hu, q, Nod.av, Nod.c]; rfl) ?_ | refine zb ?_ | refine zo ?_ | refine zt ?_ | refine zf ?_)
                refine zp (callable_of Try.func24) _ (hat1 _) ?_
                rintro _ _ ⟨rfl, rfl⟩
                refine goes_eq (by simp -implicitDefEqProofs (disch := (first | omega | (simp; done) | fail)) [if_pos, if_neg, wrap_i64, tmod_pos, tdiv_pos, Int.toNat_add, e2]; rfl) ?_
                refine goes_done ?_
                (try simp only [vq, if_true, reduceIte, Nat.reduceEqDiff, reduceCtorEq])
                repeat (first | ((first | refine zd ?_ | refine zx ?_ | refine zk ?_ | refine zl ?_ | refine zr ?_); refine zq ?_) | refine zs ?_ | refine zg ?_ | refine zb ?_ | refine zo ?_ | refine zt ?_ | refine zf ?_)
                exact ⟨l.length - (i + 1), by omega, i + 1, rfl, hlt, st_keep' (by simp []) (by simp [])⟩
      · exact ⟨0, rfl, by omega, st_keep' (by simp []) (by simp [])⟩
end Go.Proofs.Ytajgeofhlgoifaa.G

/- Graphs: the walk of a law: what is done is not ordered again. -/
set_option linter.unusedVariables false
set_option linter.unusedSimpArgs false
namespace Go.Proofs.Ytajgeofhlgoifaa.G
open Go Go.Proofs.Ytajgeofhlgoifaa.V Go.Proofs.Ytajgeofhlgoifaa.I Go.RowKit
theorem walk_GraphDone (x0 : Came) {w : World} (f0 : NodsAt w x0.v) (x1 : Came) (f1 : IdsAt w x1.v) :
    Calls Try.prog 8 #[x0.v, x1.v] w fun e w' => e = .returned (.bool true) ∧ Below w.heap.size w w' := by
  obtain ⟨a, ha⟩ := f0
  obtain ⟨b, hb⟩ := f1
  exact Law.calls (done_law a b []) w (vals_of (cells_cons ha (cells_cons hb (cells_nil _))))
end Go.Proofs.Ytajgeofhlgoifaa.G
