import Derived.Test.YtajgeofhlgoifaaGE
import Derived.Test.YtajgeofhlgoifaaV39
import Derived.Test.YtajgeofhlgoifaaV28
import Derived.Test.YtajgeofhlgoifaaV21
import Derived.Test.YtajgeofhlgoifaaV22
/- Graphs: in which order they are done: the groups are found. -/
set_option linter.unusedVariables false
set_option linter.unusedSimpArgs false
set_option maxRecDepth 20000
namespace Go.Proofs.Ytajgeofhlgoifaa.G
open Go Go.Proofs.Ytajgeofhlgoifaa.V Go.Proofs.Ytajgeofhlgoifaa.I Go.Sort Go.RowKit
abbrev GsG (l : List Nod) (dn : List Iid) (gs : List (List Iid)) : Prop := Tar.Gs (dpOf l) (dnB dn) lessB (keyC l) iid0 (CanDo l dn) gs
abbrev runG (l : List Nod) (n : Nat) (now : List Iid) (gs : List (List Iid)) : List (List Iid) := Tar.runO (dpOf l) n now gs
theorem ris_nodup0 {l : List Iid} (h : Ris l) : l.Nodup := h.imp fun {a b} hab e => by subst e; simp [lessB] at hab
theorem pre_app {H h : AHeap} (hl : h.length ≤ H.length) (hp : ∀ id, id < h.length → H[id]? = h[id]?) : H = h ++ H.drop h.length := by
  have : H.take h.length = h := by
    apply List.ext_getElem?
    intro i
    rw [List.getElem?_take]
    by_cases hi : i < h.length
    · rw [if_pos hi, hp i hi]
    · rw [if_neg hi, List.getElem?_eq_none (by omega)]
  conv => lhs; rw [← List.take_append_drop h.length H, this]
theorem lv_cells (gs : List (List Iid)) : (gs.map lv).flatMap AV.cells = gs.map lv := by
  induction gs with
  | nil => rfl
  | cons g gs ih => simp only [List.map_cons, List.flatMap_cons, ih]; rfl
@[simp] theorem lv_strip (a : List Iid) : (lv a).strip = lv a := by simp [lv]
theorem lv_ones (gs : List (List Iid)) : onesL (gs.map lv) = true := by
  induction gs with
  | nil => rfl
  | cons g gs ih => simp [onesL, ih, lv]
theorem runG_step {l : List Nod} {now : List Iid} {gs : List (List Iid)} {j : Nat} {g : List Iid} (hj : gs.findIdx? (mayG l now) = some j) (hg : gs[j]? = some g) : runG l gs.length now gs = g :: runG l (gs.length - 1) (now ++ g) (gs.eraseIdx j) := by
  have hl := (List.getElem?_eq_some_iff.1 hg).1
  have e : gs.length = (gs.length - 1) + 1 := by omega
  conv => lhs; rw [runG, e]
  rw [Tar.runO]
  simp only [hj, hg, Option.getD_some]
theorem gsortG_any (gs : List (List Iid)) (aid c : Nat) (cs : List AV) (h : AHeap) (hk : gs.length ≤ 1000000) (ho : h[aid]? = some (.cells cs)) (hc : cs.length = c) (hcl : gs.length ≤ c) (htk : cs.take gs.length = gs.map lv)
    (hne : ∀ g ∈ gs, g ≠ []) (hlg : ∀ g ∈ gs, g.length ≤ 100000) (hinj : ∀ (i j : Nat) (hi : i < gs.length) (hj : j < gs.length), leastG gs[i] = leastG gs[j] → i = j) :
    ACalls Try.prog 31 [.arr aid 0 gs.length c, .func (.func 32) [] []] h fun r h' => r = .tuple [] ∧ ∃ left : List (List Iid), left.Perm gs ∧ (left.Pairwise fun a b => lessB (leastG a) (leastG b) = true) ∧ h' = h.set aid (.cells (left.map lv ++ cs.drop gs.length)) := by
  by_cases h0 : gs = []
  · subst h0
    intro w0 g w vs hv S
    obtain ⟨v, u, rfl, hva, hvf⟩ := vals_two hv
    obtain ⟨hid, b, o, hb, hle, hm, hoff, rfl⟩ := hva.arr_eq
    have hcall : Calls Try.prog 31 _ _ _ := AnyF.slices_SortFunc_none (P := Try.prog) { Try.sortG with } (some ⟨b, o, none⟩) c u w
    refine hcall.mono ?_
    rintro e w' ⟨rfl, rfl⟩
    refine ⟨.tuple [], _, h, g, rfl, .refl g, .tuple _ _ rfl fun i h => absurd h (by simp), S, rfl, [], .refl _, .nil, ?_⟩
    simp [set_same ho]
  · exact gsortG_arr gs aid c cs h (List.length_pos_iff.2 h0) hk ho hc hcl htk hne hlg hinj
theorem flat_inj {gs : List (List Iid)} (hn : gs.flatten.Nodup) {x : Iid} : ∀ (i j : Nat) (hi : i < gs.length) (hj : j < gs.length), x ∈ gs[i] → x ∈ gs[j] → i = j := by
  induction gs with
  | nil => intro i j hi; simp at hi
  | cons g gs ih =>
    rw [List.flatten_cons, List.nodup_append] at hn
    obtain ⟨h1, h2, h3⟩ := hn
    intro i j hi hj hxi hxj
    cases i with
    | zero =>
      cases j with
      | zero => rfl
      | succ j =>
        simp only [List.getElem_cons_zero, List.getElem_cons_succ] at hxi hxj
        exact absurd rfl (h3 x hxi x (List.mem_flatten.2 ⟨_, List.getElem_mem _, hxj⟩))
    | succ i =>
      cases j with
      | zero =>
        simp only [List.getElem_cons_zero, List.getElem_cons_succ] at hxi hxj
        exact absurd rfl (h3 x hxj x (List.mem_flatten.2 ⟨_, List.getElem_mem _, hxi⟩))
      | succ j =>
        simp only [List.getElem_cons_succ] at hxi hxj
        rw [ih h2 i j (by simpa using hi) (by simpa using hj) hxi hxj]
theorem flat_nd {gs : List (List Iid)} (hn : gs.flatten.Nodup) : ∀ g ∈ gs, g.Nodup := by
  induction gs with
  | nil => intro g hg; cases hg
  | cons g gs ih =>
    rw [List.flatten_cons, List.nodup_append] at hn
    intro x hx
    rcases List.mem_cons.1 hx with rfl | h
    · exact hn.1
    · exact ih hn.2.1 x h
/-- Their order: the groups, by the least of each. -/
theorem gs_of {l : List Nod} {dn vis : List Iid} {grs left : List (List Iid)} (G : Tar.Found (dpOf l) (dnB dn) vis [] grs) (S : ∀ g ∈ grs, g.Pairwise fun a b => keyC l a b = true) (hvc : ∀ x, x ∈ vis ↔ CanDo l dn x) (hp : left.Perm grs) (ho : left.Pairwise fun a b => lessB (leastG a) (leastG b) = true) : GsG l dn left :=
  ⟨fun g hg => G.grp g (hp.mem_iff.1 hg), fun g hg => S g (hp.mem_iff.1 hg), fun x => by
    rw [hp.flatten.mem_iff, G.mem, hvc]; simp, hp.flatten.nodup_iff.2 G.nd, ho⟩
/-- In which order: the groups, by the least of each; then one by one the first that may be next. -/
def OrdOk (l : List Nod) (dn : List Iid) (out : List (List Iid)) : Prop := ∃ gs, GsG l dn gs ∧ (∃ grs, Tar.Left (dpOf l) (dnB dn) grs dn gs) ∧ out = runG l gs.length dn gs
theorem order_ok (l : List Nod) (dn : List Iid) (tl td : Tok) (hl : l.length ≤ 90000) (hd : dn.length ≤ 90000) (hW : ∀ f, (dpOf l f).length + sumL l [] ≤ 100000) (h : AHeap) :
    ACalls Try.prog 13 [.list (l.map Nod.av) tl, .list (dn.map Iid.av) td] h fun r h' => (∃ X, h' = h ++ X) ∧ (validB l = false → r = .list [] .no) ∧ (validB l = true → ∃ out, OrdOk l dn out ∧ r = .list (out.map lv) .no) := by
  have hof := fun h => of_ok l dn .no .no (by omega) (by omega) h
  have hrd := fun i1 i2 h N => ready_ok l dn i1 i2 h N (by omega) hW
  have hW1 : ∀ f, (dpOf l f).length ≤ 100000 := fun f => by have := hW f; omega
  refine acalls_of_awp Try.func13 rfl (by simp only [List.length_cons, List.length_nil]; decide) ?_
  simp only [params_cons, params_nil]
  refine awp_seq ?_
  refine zg ?_
  refine goes_done ?_
  (try simp only [vq, if_true, reduceIte, Nat.reduceEqDiff, reduceCtorEq])
  refine awp_seq ?_
  repeat (first | ((first | refine zd ?_ | refine zx ?_ | refine zk ?_ | refine zl ?_ | refine zr ?_); refine zq ?_) | refine zs ?_ | refine zg ?_ | refine zb ?_ | refine zo ?_ | refine zt ?_ | refine zf ?_)
  refine zp (callable_of Try.func28) _ (hof _) ?_
  rintro _ _ ⟨rfl, a, X, rfl⟩
  refine ze ?_
  refine goes_done ?_
  simp only [vq, if_true, reduceIte, Nat.reduceEqDiff, reduceCtorEq]
  refine awp_seq ?_
  refine awp_seq ?_
  refine zg ?_
  refine goes_done ?_
  (try simp only [vq, if_true, reduceIte, Nat.reduceEqDiff, reduceCtorEq])
  cases hv : validB l with
  | false =>
    repeat (first | ((first | refine zd ?_ | refine zx ?_ | refine zk ?_ | refine zl ?_ | refine zr ?_); refine zq ?_) | refine zs ?_ | refine zg ?_ | refine zb ?_ | refine zo ?_ | refine zt ?_ | refine zf ?_)
    first | refine body_all (.inr rfl) (by simp -implicitDefEqProofs; rfl) (by simp -implicitDefEqProofs; rfl) (by first | (simp; done) | (simp; omega) | omega) ?_ | refine body_all (.inl rfl) (by simp -implicitDefEqProofs; rfl) (by simp -implicitDefEqProofs; rfl) (by first | (simp; done) | (simp; omega) | omega) ?_
    exact ⟨⟨_, rfl⟩, fun _ => rfl, fun e => by cases e⟩
  | true =>
    refine awp_cond_f rfl ?_
    refine awp_skip ?_
    simp only [vq, if_true, reduceIte, Nat.reduceEqDiff, reduceCtorEq]
    refine awp_seq ?_
    refine awp_region_at 1 rfl rfl ?_
    refine zn ?_
    refine goes_done ?_
    refine aops_makeMap rfl rfl ?_
    refine aops_end ?_
    refine zn ?_
    refine goes_done ?_
    simp only [vq, if_true, reduceIte, Nat.reduceEqDiff, reduceCtorEq]
    obtain ⟨i1, hi1⟩ : ∃ i, i = h.length + 1 := ⟨_, rfl⟩
    obtain ⟨i2, hi2⟩ : ∃ i, i = h.length + 2 := ⟨_, rfl⟩
    obtain ⟨nb, hnb⟩ : ∃ i, i = h.length + (X.length + 1 + 1 + 1) := ⟨_, rfl⟩
    obtain ⟨i3, hi3⟩ : ∃ i, i = h.length + (X.length + 1 + 1 + 1 + 1) := ⟨_, rfl⟩
    obtain ⟨fo, hfo⟩ : ∃ i, i = h.length + (X.length + 2 + 1 + 1 + 1) := ⟨_, rfl⟩
    rw [← hi1, ← hi2, ← hnb, ← hi3, ← hfo]
    have e1 : (h ++ a :: (nodP l).o :: (ms dn).o :: (X ++ [AObj.cells [AV.map i1, AV.map i2], AObj.map [] 0, AObj.cells [AV.map i1, AV.map i2, AV.map i3, AV.list [] Tok.full, AV.list [] Tok.full]]))[i1]? = some (nodP l).o := by subst hi1; rw [List.getElem?_append_right (by omega)]; simp
    have e2 : (h ++ a :: (nodP l).o :: (ms dn).o :: (X ++ [AObj.cells [AV.map i1, AV.map i2], AObj.map [] 0, AObj.cells [AV.map i1, AV.map i2, AV.map i3, AV.list [] Tok.full, AV.list [] Tok.full]]))[i2]? = some (ms dn).o := by subst hi2; rw [List.getElem?_append_right (by omega)]; simp
    have e3 : (h ++ a :: (nodP l).o :: (ms dn).o :: (X ++ [AObj.cells [AV.map i1, AV.map i2], AObj.map [] 0, AObj.cells [AV.map i1, AV.map i2, AV.map i3, AV.list [] Tok.full, AV.list [] Tok.full]]))[i3]? = some (MS.o ([], 0)) := by
      rw [List.getElem?_append_right (by omega), show i3 - h.length = X.length + 1 + 1 + 1 + 1 from by omega]
      simp [MS.o, mapO]
    have e4 : (h ++ a :: (nodP l).o :: (ms dn).o :: (X ++ [AObj.cells [AV.map i1, AV.map i2], AObj.map [] 0, AObj.cells [AV.map i1, AV.map i2, AV.map i3, AV.list [] Tok.full, AV.list [] Tok.full]]))[fo]? = some (.cells [AV.map i1, AV.map i2, AV.map i3, AV.list [] Tok.full, AV.list [] Tok.full]) := by
      rw [List.getElem?_append_right (by omega), show fo - h.length = X.length + 2 + 1 + 1 + 1 from by omega]
      simp
    have e5 : (h ++ a :: (nodP l).o :: (ms dn).o :: (X ++ [AObj.cells [AV.map i1, AV.map i2], AObj.map [] 0, AObj.cells [AV.map i1, AV.map i2, AV.map i3, AV.list [] Tok.full, AV.list [] Tok.full]]))[nb]? = some (.cells [AV.map i1, AV.map i2]) := by
      rw [List.getElem?_append_right (by omega), show nb - h.length = X.length + 1 + 1 + 1 from by omega]
      simp
    have e6 : ∀ id, id < h.length → (h ++ a :: (nodP l).o :: (ms dn).o :: (X ++ [AObj.cells [AV.map i1, AV.map i2], AObj.map [] 0, AObj.cells [AV.map i1, AV.map i2, AV.map i3, AV.list [] Tok.full, AV.list [] Tok.full]]))[id]? = h[id]? := fun id h => List.getElem?_append_left h
    generalize (h ++ a :: (nodP l).o :: (ms dn).o :: (X ++ [AObj.cells [AV.map i1, AV.map i2], AObj.map [] 0, AObj.cells [AV.map i1, AV.map i2, AV.map i3, AV.list [] Tok.full, AV.list [] Tok.full]])) = HS at *
    have A0 : At HS HS (own i3 fo (.list [] .full) (.list [] .full) (fun _ => 0) []) l dn i1 i2 i3 fo [] (.list [] .full) (.list [] .full) (fun _ => 0) [] (fun _ => 0) [] [] [] :=
      ⟨⟨e1, e2, e4, .inl ⟨rfl, rfl⟩, .inl ⟨rfl, rfl⟩, ⟨([], 0), e3, wf0, rfl, fun x => by simp [getE, keyAt]⟩, (fun x hx => by cases hx), (by simp [blk]), (by omega), (by omega)⟩, Tar.Inv.nil, Tar.Found.nil, by simp, Kp.refl _ _, by simp, by simp⟩
    have hOS : ∀ id, id ∈ own i3 fo (.list [] .full) (.list [] .full) (fun _ => 0) [] → id = i3 ∨ id = fo := fun id hid => by simpa [own, blk] using hid
    generalize own i3 fo (.list [] .full) (.list [] .full) (fun _ => 0) [] = OS at *
    refine awp_seq ?_
    refine awp_seq ?_
    repeat (first | ((first | refine zd ?_ | refine zx ?_ | refine zk ?_ | refine zl ?_ | refine zr ?_); refine zq ?_) | refine zs ?_ | refine zh (by simp -implicitDefEqProofs (disch := (first | omega | (simp; done) | fail)) [if_pos, if_neg, wrap_i64, tmod_pos, tdiv_pos, Int.toNat_add, e5]; rfl) ?_ | refine zb ?_ | refine zo ?_ | refine zt ?_ | refine zf ?_)
    refine goes_call (callable_of Try.func29) _ (hrd i1 i2 HS ⟨e1, e2⟩) ?_
    rintro _ H1 ⟨rs, X1, rfl, rfl, hri, hrs⟩
    refine goes_eq (by simp -implicitDefEqProofs (disch := (first | omega | (simp; done) | fail)) [if_pos, if_neg, wrap_i64, tmod_pos, tdiv_pos, Int.toNat_add, lv]; rfl) ?_
    refine goes_done ?_
    simp only [vq, if_true, reduceIte, Nat.reduceEqDiff, reduceCtorEq]
    refine AWP.mono (Q := fun e st => e = .normal ∧ ∃ (H : AHeap) (sv gv : AV) (mid : Iid → Nat) (vis : List Iid) (low : Iid → Nat) (grs : List (List Iid)), At HS H OS l dn i1 i2 i3 fo [] sv gv mid vis low [] grs [] ∧ (∀ x ∈ rs, x ∈ vis) ∧ st.le ⟨Try.f13.ntmps, [(5, .ptr nb 0), (7, .ptr fo 0)], H⟩) ?_ ?_
    · refine awp_block ?_
      have hu := Try.underlying60
      have hur : uni 3 (rs.map Iid.av) = true := uni_map fun _ => rfl
      have hrl : rs.length ≤ 90000 := by
        have := can_len (ris_nodup0 hri) fun x hx => (hrs x).1 hx
        omega
      refine awp_loop (fun z st => ∃ (i : Nat) (H : AHeap) (sv gv : AV) (mid : Iid → Nat) (vis : List Iid) (low : Iid → Nat) (grs : List (List Iid)), z = rs.length - i ∧ i ≤ rs.length ∧ At HS H OS l dn i1 i2 i3 fo [] sv gv mid vis low [] grs [] ∧ (∀ x ∈ rs.take i, x ∈ vis) ∧ st.le ⟨Try.f13.ntmps, [(5, .ptr nb 0), (7, .ptr fo 0), (28, .list (rs.map Iid.av) .no), (29, iv (rs.length : Nat)), (30, iv (i : Nat))], H⟩) rs.length ?_ ?_
      rotate_left
      rintro z st ⟨i, H, sv, gv, mid, vis, low, grs, rfl, hi, A, hvi, hle⟩
      · refine awp_le hle ?_
        clear hle
        by_cases h9 : i = rs.length
        · subst h9
          rw [List.take_length] at hvi
          have q : ¬ (rs.length : Int) < (rs.length : Int) := by omega
          refine awp_seq ?_
          refine zh (by simp -implicitDefEqProofs (disch := (first | omega | (simp; done) | fail)) [if_pos, if_neg, wrap_i64, tmod_pos, tdiv_pos, Int.toNat_add, q]; rfl) ?_
          refine goes_done ?_
          (try simp only [vq, if_true, reduceIte, Nat.reduceEqDiff, reduceCtorEq])
          refine awp_seq ?_
          refine awp_cond_f rfl ?_
          refine awp_exit ?_
          (try simp only [vq, if_true, reduceIte, Nat.reduceEqDiff, reduceCtorEq])
          exact ⟨trivial, H, sv, gv, mid, vis, low, grs, A, hvi, st_keep' (by simp []) (by simp [])⟩
        · have hlt : i < rs.length := by omega
          have q : (i : Int) < (rs.length : Int) := by omega
          have hx2 : (rs.map Iid.av)[i]? = some (Iid.av rs[i]) := by simp [hlt]
          have hxc : CanDo l dn rs[i] := (hrs _).1 (List.getElem_mem hlt)
          have htk : ∀ x, x ∈ rs.take (i + 1) ↔ x ∈ rs.take i ∨ x = rs[i] := fun x => by rw [List.take_succ_eq_append_getElem hlt, List.mem_append, List.mem_singleton]
          generalize rs[i] = x at *
          have hfl := get_lt A.F.obj
          have hnl : nb < H.length := Nat.lt_of_lt_of_le (get_lt e5) A.K.len
          have n1 : ¬ nb = H.length := by omega
          have n2 : ¬ fo = H.length := by omega
          refine awp_seq ?_
          refine zh (by simp -implicitDefEqProofs (disch := (first | omega | (simp; done) | fail)) [if_pos, if_neg, wrap_i64, tmod_pos, tdiv_pos, Int.toNat_add, q]; rfl) ?_
          refine goes_done ?_
          (try simp only [vq, if_true, reduceIte, Nat.reduceEqDiff, reduceCtorEq])
          refine awp_seq ?_
          refine awp_cond_t rfl ?_
          refine awp_skip ?_
          simp only [vq, if_true, reduceIte, Nat.reduceEqDiff, reduceCtorEq]
          refine awp_seq ?_
          refine awp_block ?_
          refine awp_seq ?_
          refine zh (by simp -implicitDefEqProofs (disch := (first | omega | (simp; done) | fail)) [if_pos, if_neg, wrap_i64, tmod_pos, tdiv_pos, Int.toNat_add, hx2, hur, q, Iid.av, Iid.c]; rfl) ?_
          refine goes_done ?_
          (try simp only [vq, if_true, reduceIte, Nat.reduceEqDiff, reduceCtorEq])
          refine awp_hard (id := H.length) (by simp -implicitDefEqProofs; rfl) ?_
          simp -implicitDefEqProofs only [Slots.melt, AV.melt, Nat.add_left_cancel_iff, Nat.add_eq_left, Nat.left_eq_add, Nat.reduceEqDiff, reduceIte, Nat.succ_ne_self, Nat.one_ne_zero, Nat.zero_ne_one, List.set_append_right, List.set_append_left, Nat.sub_self, Nat.le_refl, Nat.add_sub_cancel_left, Nat.le_add_right, List.set_cons_zero, List.set_cons_succ, n1, n2]
          have A2 := A.app [.dead]
          generalize H ++ [AObj.dead] = H2 at *
          obtain ⟨p, hp, hwf, hpl, hpg⟩ := A2.F.mks
          have hH8 : HeldA H2 [(fo, 2, .map i3)] := fun q hq => by
            have : q = (fo, 2, .map i3) := by simpa using hq
            subst this
            exact ⟨rfl, _, A2.F.obj, rfl⟩
          refine awp_seq ?_
          refine awp_drawH [(fo, 2, .map i3)] (.q 0 (.q 1 (.q 2 (.q 3 (.q 4 (.a 5 (.q 6 (.done)))))))) hH8 (by kernel_rfl) (by kernel_rfl) ?_
          refine treeH_qs (l := [0, 1, 2]) (tree_start (goesT_eq (by simp -implicitDefEqProofs (disch := (first | omega | (simp; done) | fail)) [if_pos, if_neg, wrap_i64]; rfl) ?_))
          refine goesT_done ⟨rfl, ?_⟩
          refine treeH_ld1 (.map i3) rfl rfl (by rfl) rfl (by simp) rfl ?_
          refine treeH_qs (l := [4]) (tree_start (goesT_eq (by simp -implicitDefEqProofs (disch := (first | omega | (simp; done) | fail)) [if_pos, if_neg, wrap_i64]; rfl) ?_))
          refine goesT_done ⟨rfl, ?_⟩
          refine treeH_a (aats_look (id := i3) (es := p.1) (clock := p.2) (k := x) (z := .nilptr) iid_key rfl rfl (by rfl) hu zero_mark rfl rfl hp ⟨hH8, ?_⟩)
          rw [lookE_get, hpg]
          by_cases hxv : x ∈ vis
          · rw [if_pos hxv, Option.getD_some]
            refine treeH_qs (l := [6]) (tree_start (goesT_eq (by simp -implicitDefEqProofs (disch := (first | omega | (simp; done) | fail)) [if_pos, if_neg, wrap_i64]; rfl) ?_))
            refine goesT_done ⟨rfl, ?_⟩
            refine treeH_done ?_
            simp only [vq, if_true, reduceIte, Nat.reduceEqDiff, reduceCtorEq]
            refine awp_cond_f rfl ?_
            repeat (first | ((first | refine zd ?_ | refine zx ?_ | refine zk ?_ | refine zl ?_ | refine zr ?_); refine zq ?_) | refine zs ?_ | refine zg ?_ | refine zb ?_ | refine zo ?_ | refine zt ?_ | refine zf ?_)
            refine ⟨rs.length - (i + 1), by omega, i + 1, H2, sv, gv, mid, vis, low, grs, rfl, hlt, A2, fun w hw => ?_, st_keep' (by simp []) (by simp [])⟩
            rcases (htk w).1 hw with h | rfl
            · exact hvi w h
            · exact hxv
          · rw [if_neg hxv, Option.getD_none]
            refine treeH_qs (l := [6]) (tree_start (goesT_eq (by simp -implicitDefEqProofs (disch := (first | omega | (simp; done) | fail)) [if_pos, if_neg, wrap_i64]; rfl) ?_))
            refine goesT_done ⟨rfl, ?_⟩
            refine treeH_done ?_
            simp only [vq, if_true, reduceIte, Nat.reduceEqDiff, reduceCtorEq]
            refine awp_cond_t rfl ?_
            have hfr := from_ok (H0 := H2) ⟨A2.F, A2.I, A2.G, A2.S, Kp.refl _ _, A2.C, fun _ h => h⟩ x hxv hxc hl hW1
            unfold Iid.av Iid.c at hfr
            repeat (first | ((first | refine zd ?_ | refine zx ?_ | refine zk ?_ | refine zl ?_ | refine zr ?_); refine zq ?_) | refine zs ?_ | refine zg ?_ | refine zb ?_ | refine zo ?_ | refine zt ?_ | refine zf ?_)
            refine goes_call (callable_of Try.func30) _ hfr ?_
            rintro _ H3 ⟨rfl, sv3, gv3, mid3, vis3, low3, grs3, A3, hx3⟩
            refine ze ?_
            refine goes_done ?_
            (try simp only [vq, if_true, reduceIte, Nat.reduceEqDiff, reduceCtorEq])
            repeat (first | ((first | refine zd ?_ | refine zx ?_ | refine zk ?_ | refine zl ?_ | refine zr ?_); refine zq ?_) | refine zs ?_ | refine zg ?_ | refine zb ?_ | refine zo ?_ | refine zt ?_ | refine zf ?_)
            refine ⟨rs.length - (i + 1), by omega, i + 1, H3, sv3, gv3, mid3, vis3, low3, grs3, rfl, hlt, ⟨A3.F, A3.I, A3.G, A3.S, A2.K.trans A3.K, A3.C, by simp⟩, fun w hw => ?_, st_keep' (by simp []) (by simp [])⟩
            rcases (htk w).1 hw with h | rfl
            · exact A3.V w (hvi w h)
            · exact hx3
      · exact ⟨0, _, _, _, _, _, _, _, rfl, by omega, A0.app X1, by simp, st_keep' (by simp []) (by simp [])⟩
    · rintro e st2 ⟨rfl, H, sv, gv, mid, vis, low, grs, A, hvi, hle⟩
      simp only [vq, if_true, reduceIte, Nat.reduceEqDiff, reduceCtorEq]
      refine awp_le hle ?_
      clear hle
      have hvc : ∀ x, x ∈ vis ↔ CanDo l dn x := fun x => ⟨A.C x, fun h => hvi x ((hrs x).2 h)⟩
      have hobj := A.F.obj
      have hpre : ∀ id, id < h.length → H[id]? = h[id]? := fun id hid => by
        rw [A.K.same id (by have := get_lt e1; omega) (fun h => by rcases hOS id h with h | h <;> omega)]
        exact e6 id hid
      have hHl : h.length ≤ H.length := by have := A.K.len; have := get_lt e1; omega
      have hnbO : nb ∉ OS := fun h => by rcases hOS nb h with h | h <;> omega
      have hnb2 : H[nb]? = some (.cells [.map i1, .map i2]) := by rw [A.K.same nb (get_lt e5) hnbO]; exact e5
      refine awp_seq ?_
      refine zh (by simp -implicitDefEqProofs (disch := (first | omega | (simp; done) | fail)) [if_pos, if_neg, wrap_i64, tmod_pos, tdiv_pos, Int.toNat_add, hobj]; rfl) ?_
      refine goes_done ?_
      (try simp only [vq, if_true, reduceIte, Nat.reduceEqDiff, reduceCtorEq])
      have hgl := grs_len A
      rcases A.F.gr with ⟨rfl, rfl⟩ | ⟨gb, c, cs, rfl, r1, r2, r3, r4, r5⟩
      · have hG : GsG l dn [] := ⟨by simp, by simp, fun x => by rw [A.G.mem, hvc]; simp, by simp, by simp⟩
        refine awp_seq ?_
        repeat (first | ((first | refine zd ?_ | refine zx ?_ | refine zk ?_ | refine zl ?_ | refine zr ?_); refine zq ?_) | refine zs ?_ | refine zg ?_ | refine zb ?_ | refine zo ?_ | refine zt ?_ | refine zf ?_)
        refine zp (callable_of Try.func31) _ (gsortG_nil .no _) ?_
        rintro _ H9 ⟨rfl, hH9⟩
        rw [hH9]
        clear hH9
        refine ze ?_
        refine goes_done ?_
        (try simp only [vq, if_true, reduceIte, Nat.reduceEqDiff, reduceCtorEq])
        repeat (first | ((first | refine zd ?_ | refine zx ?_ | refine zk ?_ | refine zl ?_ | refine zr ?_); refine zq ?_) | refine zs ?_ | refine zg ?_ | refine zb ?_ | refine zo ?_ | refine zt ?_ | refine zf ?_)
        refine awp_loop (fun z st => st.le ⟨Try.f13.ntmps, [(10, .list [] .full), (11, .list [] .full)], H⟩) 0 ?_ ?_
        rotate_left
        rintro z st hle
        · refine awp_le hle ?_
          clear hle
          repeat (first | ((first | refine zd ?_ | refine zx ?_ | refine zk ?_ | refine zl ?_ | refine zr ?_); refine zq ?_) | refine zs ?_ | refine zg ?_ | refine zb ?_ | refine zo ?_ | refine zt ?_ | refine zf ?_)
          first | refine body_all (.inr rfl) (by simp -implicitDefEqProofs; rfl) (by simp -implicitDefEqProofs; rfl) (by first | (simp; done) | (simp; omega) | omega) ?_ | refine body_all (.inl rfl) (by simp -implicitDefEqProofs; rfl) (by simp -implicitDefEqProofs; rfl) (by first | (simp; done) | (simp; omega) | omega) ?_
          exact ⟨⟨H.drop h.length, pre_app hHl hpre⟩, (fun e => by cases e), fun _ => ⟨[], ⟨[], hG, ⟨[], ⟨fun i g h => by simp at h, fun y hy => by simpa [dnB] using hy, by simp, by simp⟩⟩, rfl⟩, rfl⟩⟩
        · exact st_keep' (by simp []) (by simp [])
      · have hne : ∀ g ∈ grs, g ≠ [] := fun g hg => (A.G.grp g hg).ne
        have hlg : ∀ g ∈ grs, g.length ≤ l.length := fun g hg => by
          have h1 : g.Nodup := flat_nd A.G.nd g hg
          have h2 := List.Nodup.length_le_of_subset h1 (l₂ := vis) fun x hx => ((A.G.mem x).1 (List.mem_flatten.2 ⟨g, hg, hx⟩)).1
          have h3 := can_len A.I.nd A.C
          omega
        have hinj : ∀ (i j : Nat) (hi : i < grs.length) (hj : j < grs.length), leastG grs[i] = leastG grs[j] → i = j := fun i j hi hj e => by
          have h1 : leastG grs[i] ∈ grs[i] := (Tar.leastL_ok less_lt iid0 (hne grs[i] (List.getElem_mem hi))).1
          have h2 : leastG grs[j] ∈ grs[j] := (Tar.leastL_ok less_lt iid0 (hne grs[j] (List.getElem_mem hj))).1
          rw [← e] at h2
          exact flat_inj A.G.nd i j hi hj h1 h2
        refine awp_seq ?_
        repeat (first | ((first | refine zd ?_ | refine zx ?_ | refine zk ?_ | refine zl ?_ | refine zr ?_); refine zq ?_) | refine zs ?_ | refine zg ?_ | refine zb ?_ | refine zo ?_ | refine zt ?_ | refine zf ?_)
        refine zp (callable_of Try.func31) _ (gsortG_any grs gb c cs H (by omega) r1 r2 r3 r5 hne (fun g hg => by have := hlg g hg; omega) hinj) ?_
        rintro _ H9 ⟨rfl, left, hperm, hpw, hH9⟩
        refine ze ?_
        refine goes_done ?_
        (try simp only [vq, if_true, reduceIte, Nat.reduceEqDiff, reduceCtorEq])
        have hG : GsG l dn left := gs_of A.G A.S hvc hperm hpw
        have hlen : left.length = grs.length := hperm.length_eq
        have hgbl := get_lt r1
        have hgO : gb ∈ own i3 fo sv (.arr gb 0 grs.length c) mid vis := by simp [own, blk]
        obtain ⟨ni1, ni2⟩ := A.F.i12_not
        have g1 : gb ≠ i1 := fun e => ni1 (e ▸ hgO)
        have g2 : gb ≠ i2 := fun e => ni2 (e ▸ hgO)
        have hgOS : gb < HS.length → gb = i3 ∨ gb = fo := fun h => hOS gb (A.K.sub gb hgO h)
        have g3 : gb ≠ nb := fun e => by
          have := hgOS (by rw [e]; exact get_lt e5)
          omega
        have g4 : h.length ≤ gb := by
          rcases Nat.lt_or_ge gb HS.length with h | h
          · have := hgOS h; omega
          · have := get_lt e1; omega
        refine awp_fixs (id := gb) (n := grs.length) (c := c) (k := 1) (cs := left.map lv ++ cs.drop grs.length) (xs := left.map lv) (by rw [hH9]; exact List.getElem?_set_self hgbl) ?_ (by simp [hlen]) (lv_uni left) (by omega) ?_ ?_
        · rw [Nat.mul_one, List.take_left' (by simp [hlen])]
          exact (lv_cells left).symm
        · simp [hlen]
        have k1 : ∀ id, id ≠ gb → (H9.set gb .dead)[id]? = H[id]? := fun id hid => by rw [List.getElem?_set_ne (Ne.symm hid), hH9, List.getElem?_set_ne (Ne.symm hid)]
        have k2 : (H9.set gb .dead).length = H.length := by rw [List.length_set, hH9, List.length_set]
        generalize H9.set gb .dead = HG at *
        simp only [Slots.thaw, AV.thaw, and_self, if_true]
        have x1 : HG[i1]? = some (nodP l).o := by rw [k1 _ (Ne.symm g1)]; exact A.F.nodes
        have x2 : HG[i2]? = some (ms dn).o := by rw [k1 _ (Ne.symm g2)]; exact A.F.done
        have x3 : HG[nb]? = some (.cells [.map i1, .map i2]) := by rw [k1 _ (Ne.symm g3)]; exact hnb2
        have x4 : ∀ id, id < h.length → HG[id]? = h[id]? := fun id hid => by rw [k1 _ (by omega)]; exact hpre id hid
        have hL0 : Tar.Left (dpOf l) (dnB dn) grs (dn ++ ([] : List (List Iid)).flatten) left := ⟨A.G.topo, fun y hy => by simpa [dnB] using hy, fun g hg => hperm.mem_iff.1 hg, fun g hg hn => absurd (hperm.mem_iff.2 hg) hn⟩
        have hL0' : Tar.Left (dpOf l) (dnB dn) grs dn left := by simpa using hL0
        have hln : left.Nodup := hpw.imp fun {a b} h e => by subst e; rw [less_lt.irr] at h; cases h
        have hn12 : i1 ≠ i2 := by omega
        have hnb2' : nb ≠ i2 := by omega
        have hi2h : h.length ≤ i2 := by omega
        have hgn : ∀ g ∈ left, g.length ≤ l.length := fun g hg => hlg g (hperm.mem_iff.1 hg)
        clear hH9 r1 r2 r3 r4 r5 hobj hvi A A0 e1 e2 e3 e4 e5 e6 hof hrd
        refine awp_seq ?_
        refine zg ?_
        refine goes_done ?_
        (try simp only [vq, if_true, reduceIte, Nat.reduceEqDiff, reduceCtorEq])
        refine awp_seq ?_
        refine awp_block ?_
        refine awp_loop (fun z st => ∃ (left2 outs : List (List Iid)) (HK Z : AHeap) (t1 t2 : Tok), z = left2.length ∧ HK.length = HG.length ∧ (∀ id, id ≠ i2 → HK[id]? = HG[id]?) ∧ HK[i2]? = some (ms (dn ++ outs.flatten)).o ∧ Tar.Left (dpOf l) (dnB dn) grs (dn ++ outs.flatten) left2 ∧ left2.Nodup ∧ outs ++ runG l left2.length (dn ++ outs.flatten) left2 = runG l left.length dn left ∧ outs.length + left2.length = left.length ∧ (∀ g ∈ left2, g ∈ left) ∧ TokZ HK.length Z 23 1 t2 ∧ st.le ⟨Try.f13.ntmps, [(5, .ptr nb 0), (10, .list (left2.map lv) t1), (11, .list (outs.map lv) t2)], HK ++ Z⟩) left.length ?_ ?_
        rotate_left
        rintro z st ⟨left2, outs, HK, Z, t1, t2, rfl, y1, y2, y3, hL, hln2, hrun, hcnt, hsub, htz, hle⟩
        · refine awp_le hle ?_
          clear hle
          by_cases h9 : left2 = []
          · subst h9
            repeat (first | ((first | refine zd ?_ | refine zx ?_ | refine zk ?_ | refine zl ?_ | refine zr ?_); refine zq ?_) | refine zs ?_ | refine zg ?_ | refine zb ?_ | refine zo ?_ | refine zt ?_ | refine zf ?_)
            first | refine body_all (.inr rfl) (by simp -implicitDefEqProofs; rfl) (by simp -implicitDefEqProofs; rfl) (by first | (simp; done) | (simp; omega) | omega) ?_ | refine body_all (.inl rfl) (by simp -implicitDefEqProofs; rfl) (by simp -implicitDefEqProofs; rfl) (by first | (simp; done) | (simp; omega) | omega) ?_
            have hlast : outs = runG l left.length dn left := by rw [← hrun]; simp [Tar.runO]
            refine ⟨⟨(HK ++ Z).drop h.length, pre_app (by simp; omega) fun id hid => ?_⟩, (fun e => e.elim), fun _ => ⟨outs, ⟨left, hG, ⟨grs, hL0'⟩, hlast⟩, by first | rfl | simp⟩⟩
            rw [List.getElem?_append_left (by omega), y2 id (by omega)]
            exact x4 id hid
          · obtain ⟨j, hj⟩ := hL.next h9
            obtain ⟨g, hgj, hgm, _⟩ := Tar.find_get hj
            have hfz : findZ l (dn ++ outs.flatten) left2 = (j : Nat) := by unfold findZ; rw [hj]
            have hjl : j < left2.length := (List.getElem?_eq_some_iff.1 hgj).1
            have hll : left2.length ≤ left.length := by omega
            have hleft : left.length ≤ l.length := by omega
            have hgl3 : g.length ≤ l.length := hgn g (hsub g (List.mem_of_getElem? hgj))
            have q0 : (0 : Int) < (left2.length : Int) := by omega
            have q1 : (j : Int) < (left2.length : Int) := by omega
            have q2 : 0 < left2.length := by omega
            have z1 : ∀ Y : AHeap, (HK ++ Y)[i1]? = some (nodP l).o := fun Y => by rw [List.getElem?_append_left (by rw [y1]; exact get_lt x1), y2 i1 hn12]; exact x1
            have z2 : ∀ Y : AHeap, (HK ++ Y)[i2]? = some (ms (dn ++ outs.flatten)).o := fun Y => by rw [List.getElem?_append_left (get_lt y3)]; exact y3
            have z3 : ∀ Y : AHeap, (HK ++ Y)[nb]? = some (.cells [.map i1, .map i2]) := fun Y => by rw [List.getElem?_append_left (by rw [y1]; exact get_lt x3), y2 nb hnb2']; exact x3
            have hix := gidx_ok l (dn ++ outs.flatten) i1 i2 left2 .no (by omega) (fun g hg => by have := hgn g (hsub g hg); omega) hW1 (HK ++ Z) (z1 _) (z2 _)
            rw [hfz] at hix
            have hu2 := lv_uni left2
            have hx2 : (left2.map lv)[j]? = some (lv g) := by simp [hgj]
            have hug : uni 3 (g.map Iid.av) = true := uni_map fun _ => rfl
            refine awp_seq ?_
            refine awp_seq ?_
            refine zh (by simp -implicitDefEqProofs (disch := (first | omega | (simp; done) | fail)) [if_pos, if_neg, wrap_i64, tmod_pos, tdiv_pos, Int.toNat_add, q2]; rfl) ?_
            refine goes_done ?_
            (try simp only [vq, if_true, reduceIte, Nat.reduceEqDiff, reduceCtorEq])
            refine awp_cond_t rfl ?_
            refine awp_skip ?_
            simp only [vq, if_true, reduceIte, Nat.reduceEqDiff, reduceCtorEq]
            refine awp_block ?_
            refine awp_seq ?_
            repeat (first | ((first | refine zd ?_ | refine zx ?_ | refine zk ?_ | refine zl ?_ | refine zr ?_); refine zq ?_) | refine zs ?_ | refine zh (by simp -implicitDefEqProofs (disch := (first | omega | (simp; done) | fail)) [if_pos, if_neg, wrap_i64, tmod_pos, tdiv_pos, Int.toNat_add, z3]; rfl) ?_ | refine zb ?_ | refine zo ?_ | refine zt ?_ | refine zf ?_)
            refine zp (callable_of Try.func35) _ hix ?_
            rintro _ _ ⟨rfl, rfl⟩
            refine ze ?_
            refine goes_done ?_
            (try simp only [vq, if_true, reduceIte, Nat.reduceEqDiff, reduceCtorEq])
            refine awp_seq ?_
            refine awp_seq ?_
            refine zh (by simp -implicitDefEqProofs (disch := (first | omega | (simp; done) | fail)) [if_pos, if_neg, wrap_i64, tmod_pos, tdiv_pos, Int.toNat_add, hx2, hu2, q1, lv]; rfl) ?_
            refine goes_done ?_
            (try simp only [vq, if_true, reduceIte, Nat.reduceEqDiff, reduceCtorEq])
            refine AWP.mono (Q := fun e st => e = .normal ∧ ∃ (HJ Z2 : AHeap), HJ.length = HK.length ∧ (∀ id, id ≠ i2 → HJ[id]? = HK[id]?) ∧ HJ[i2]? = some (ms (dn ++ outs.flatten ++ g)).o ∧ st.le ⟨Try.f13.ntmps, [(5, .ptr nb 0), (10, .list (left2.map lv) t1), (11, .list (outs.map lv) t2), (12, iv (j : Nat))], HJ ++ (Z ++ Z2)⟩) ?_ ?_
            · refine awp_block ?_
              refine awp_loop (fun z st => ∃ (i : Nat) (HJ Z2 : AHeap), z = g.length - i ∧ i ≤ g.length ∧ HJ.length = HK.length ∧ (∀ id, id ≠ i2 → HJ[id]? = HK[id]?) ∧ HJ[i2]? = some (ms (dn ++ outs.flatten ++ g.take i)).o ∧ st.le ⟨Try.f13.ntmps, [(5, .ptr nb 0), (10, .list (left2.map lv) t1), (11, .list (outs.map lv) t2), (12, iv (j : Nat)), (61, .list (g.map Iid.av) .no), (62, iv (g.length : Nat)), (63, iv (i : Nat))], HJ ++ (Z ++ Z2)⟩) g.length ?_ ?_
              rotate_left
              rintro z st ⟨i, HJ, Z2, rfl, hi, w1, w2, w3, hle⟩
              · refine awp_le hle ?_
                clear hle
                by_cases h8 : i = g.length
                · subst h8
                  rw [List.take_length] at w3
                  have q : ¬ (g.length : Int) < (g.length : Int) := by omega
                  refine awp_seq ?_
                  refine zh (by simp -implicitDefEqProofs (disch := (first | omega | (simp; done) | fail)) [if_pos, if_neg, wrap_i64, tmod_pos, tdiv_pos, Int.toNat_add, q]; rfl) ?_
                  refine goes_done ?_
                  (try simp only [vq, if_true, reduceIte, Nat.reduceEqDiff, reduceCtorEq])
                  refine awp_seq ?_
                  refine awp_cond_f rfl ?_
                  refine awp_exit ?_
                  (try simp only [vq, if_true, reduceIte, Nat.reduceEqDiff, reduceCtorEq])
                  exact ⟨trivial, HJ, Z2, w1, w2, w3, st_keep' (by simp []) (by simp [])⟩
                · have hlt : i < g.length := by omega
                  have q : (i : Int) < (g.length : Int) := by omega
                  have hy2 : (g.map Iid.av)[i]? = some (Iid.av g[i]) := by simp [hlt]
                  have htk : ms (dn ++ outs.flatten ++ g.take (i + 1)) = (putE g[i] (.bool true) (ms (dn ++ outs.flatten ++ g.take i)).2 (ms (dn ++ outs.flatten ++ g.take i)).1, putC g[i] (ms (dn ++ outs.flatten ++ g.take i)).2 (ms (dn ++ outs.flatten ++ g.take i)).1) := by
                    rw [List.take_succ_eq_append_getElem hlt, ← List.append_assoc]; exact putL_snoc _ _ _
                  generalize g[i] = y at *
                  generalize ms (dn ++ outs.flatten ++ g.take i) = e at *
                  have z4 : ∀ Y : AHeap, (HJ ++ Y)[nb]? = some (.cells [.map i1, .map i2]) := fun Y => by
                    rw [List.getElem?_append_left (by rw [w1, y1]; exact get_lt x3), w2 nb hnb2', y2 nb hnb2']; exact x3
                  have z5 : ∀ Y : AHeap, (HJ ++ Y)[i2]? = some (mapO Iid.av e.1 e.2) := fun Y => by rw [List.getElem?_append_left (get_lt w3)]; exact w3
                  have hi2l := get_lt w3
                  refine awp_seq ?_
                  refine zh (by simp -implicitDefEqProofs (disch := (first | omega | (simp; done) | fail)) [if_pos, if_neg, wrap_i64, tmod_pos, tdiv_pos, Int.toNat_add, q]; rfl) ?_
                  refine goes_done ?_
                  (try simp only [vq, if_true, reduceIte, Nat.reduceEqDiff, reduceCtorEq])
                  refine awp_seq ?_
                  refine awp_cond_t rfl ?_
                  refine awp_skip ?_
                  simp only [vq, if_true, reduceIte, Nat.reduceEqDiff, reduceCtorEq]
                  refine awp_seq ?_
                  refine awp_block ?_
                  refine awp_seq ?_
                  refine zh (by simp -implicitDefEqProofs (disch := (first | omega | (simp; done) | fail)) [if_pos, if_neg, wrap_i64, tmod_pos, tdiv_pos, Int.toNat_add, hy2, hug, q, Iid.av, Iid.c]; rfl) ?_
                  refine goes_done ?_
                  (try simp only [vq, if_true, reduceIte, Nat.reduceEqDiff, reduceCtorEq])
                  refine awp_region_at 3 rfl rfl ?_
                  refine run_start (goes_eq (by simp -implicitDefEqProofs (disch := (first | omega | (simp; done) | fail)) [if_pos, if_neg, wrap_i64, tmod_pos, tdiv_pos, Int.toNat_add, z4]; rfl) ?_)
                  refine goes_done ?_
                  refine aops_put (id := i2) (es := e.1) (clock := e.2) (k := y) (v := .bool true) iid_key rfl rfl rfl Try.underlying54 rfl rfl rfl (z5 _) ?_
                  refine aops_end ?_
                  refine zn ?_
                  refine goes_done ?_
                  simp only [vq, if_true, reduceIte, Nat.reduceEqDiff, reduceCtorEq]
                  have j1 : (HJ.set i2 (mapO Iid.av (putE y (.bool true) e.2 e.1) (putC y e.2 e.1)))[i2]? = some (mapO Iid.av (putE y (.bool true) e.2 e.1) (putC y e.2 e.1)) := List.getElem?_set_self hi2l
                  have j2 : ∀ id, id ≠ i2 → (HJ.set i2 (mapO Iid.av (putE y (.bool true) e.2 e.1) (putC y e.2 e.1)))[id]? = HJ[id]? := fun id h => List.getElem?_set_ne (Ne.symm h)
                  have j3 : (HJ.set i2 (mapO Iid.av (putE y (.bool true) e.2 e.1) (putC y e.2 e.1))).length = HJ.length := List.length_set
                  generalize HJ.set i2 (mapO Iid.av (putE y (.bool true) e.2 e.1) (putC y e.2 e.1)) = HI at *
                  repeat (first | ((first | refine zd ?_ | refine zx ?_ | refine zk ?_ | refine zl ?_ | refine zr ?_); refine zq ?_) | refine zs ?_ | refine zg ?_ | refine zb ?_ | refine zo ?_ | refine zt ?_ | refine zf ?_)
                  refine ⟨g.length - (i + 1), by omega, i + 1, HI, Z2 ++ [.cells [iv y.e, iv y.n, iv y.o]], rfl, hlt, by omega, fun id hid => (j2 id hid).trans (w2 id hid), by rw [htk]; exact j1, st_keep' (by simp []) (by simp [])⟩
              · exact ⟨0, HK, [], rfl, by omega, rfl, fun _ _ => rfl, by simpa using y3, st_keep' (by simp []) (by simp [])⟩
            · rintro e st2 ⟨rfl, HJ, Z2, w1, w2, w3, hle⟩
              simp only [vq, if_true, reduceIte, Nat.reduceEqDiff, reduceCtorEq]
              refine awp_le hle ?_
              clear hle
              have hq := nbig (n := outs.length) (by omega)
              obtain ⟨q6, q7, _⟩ := hq
              have htz3 : TokZ HJ.length (Z ++ Z2) 23 1 t2 := by rw [w1]; exact htz.app _
              generalize Z ++ Z2 = Z3 at *
              have huo := lv_uni outs
              refine awp_seq ?_
              refine AWP.mono (Q := fun e st => e = .normal ∧ ∃ (Z5 : AHeap) (t5 : Tok), TokZ HJ.length Z5 23 1 t5 ∧ st.le ⟨Try.f13.ntmps, [(5, .ptr nb 0), (10, .list (left2.map lv) t1), (11, .list ((outs ++ [g]).map lv) t5), (12, iv (j : Nat))], HJ ++ Z5⟩) ?_ ?_
              · rcases htz3 with rfl | ⟨j3, rfl, hj3⟩
                · repeat (first | ((first | refine zd ?_ | refine zx ?_ | refine zk ?_ | refine zl ?_ | refine zr ?_); refine zq ?_) | refine zs ?_ | refine zh (by simp -implicitDefEqProofs (disch := (first | omega | (simp; done) | fail)) [if_pos, if_neg, wrap_i64, tmod_pos, tdiv_pos, Int.toNat_add, q1, q6, q7, huo, hu2, hx2, lv]; rfl) ?_ | refine zb ?_ | refine zo ?_ | refine zt ?_ | refine zf ?_)
                  exact ⟨trivial, Z3 ++ [.tail 23 1], .own (HJ.length + Z3.length), .inr ⟨_, rfl, by simp⟩, st_keep' (by simp [lv]) (by simp [lv])⟩
                · repeat (first | ((first | refine zd ?_ | refine zx ?_ | refine zk ?_ | refine zl ?_ | refine zr ?_); refine zq ?_) | refine zs ?_ | refine zh (by simp -implicitDefEqProofs (disch := (first | omega | (simp; done) | fail)) [if_pos, if_neg, wrap_i64, tmod_pos, tdiv_pos, Int.toNat_add, q1, q6, q7, huo, hu2, hx2, hj3, lv]; rfl) ?_ | refine zb ?_ | refine zo ?_ | refine zt ?_ | refine zf ?_)
                  exact ⟨trivial, Z3.set j3 .dead ++ [.tail 23 1], .own (HJ.length + Z3.length), .inr ⟨_, rfl, by simp⟩, st_keep' (by simp [lv]) (by simp [lv])⟩
              · rintro e st2 ⟨rfl, Z5, t5, htz5, hle⟩
                simp only [vq, if_true, reduceIte, Nat.reduceEqDiff, reduceCtorEq]
                refine awp_le hle ?_
                clear hle
                have q8 : (j : Int) ≤ (left2.length : Int) := by omega
                have q9 : (j : Int) + 1 ≤ (left2.length : Int) := by omega
                have hq2 := nbig (n := left2.length) (by omega)
                obtain ⟨q10, q11, _⟩ := hq2
                have r0 : List.take left2.length (left2.map lv) = left2.map lv := List.take_of_length_le (by simp)
                have r1 : uni 1 (List.drop (j + 1) (left2.map lv)) = true := by rw [← List.map_drop]; exact lv_uni _
                have r2 : onesL (List.drop (j + 1) (left2.map lv)) = true := by rw [← List.map_drop]; exact lv_ones _
                have r3 : (j + (left2.length - (j + 1))) * 24 ≤ 140737488355328 := by omega
                have r4 : j + (left2.length - (j + 1)) ≤ 140737488355328 := by omega
                refine awp_draw (.q 0 (.q 1 (.q 2 (.q 3 (.q 4 (.q 5 (.q 6 (.q 7 (.a 8 (.q 9 (.done))))))))))) (by kernel_rfl) (by kernel_rfl) (tree_start (goesT_eq (by simp -implicitDefEqProofs (disch := (first | omega | (simp; done) | fail)) [if_pos, if_neg, wrap_i64, tmod_pos, tdiv_pos, Int.toNat_add, q1, q8, q9, q10, q11, hu2, r0, r1, r2, r3, r4]; rfl) ?_))
                refine goesT_done ?_
                (try simp only [vq, if_true, reduceIte, Nat.reduceEqDiff, reduceCtorEq])
                have hst := runG_step hj hgj
                have hfe : dn ++ (outs ++ [g]).flatten = dn ++ outs.flatten ++ g := by simp
                have hel : (left2.eraseIdx j).length = left2.length - 1 := by rw [List.length_eraseIdx, if_pos hjl]
                have hee : left2.eraseIdx j = left2.take j ++ left2.drop (j + 1) := List.eraseIdx_eq_take_drop_succ _ _
                have hrun2 : outs ++ [g] ++ runG l (left2.eraseIdx j).length (dn ++ (outs ++ [g]).flatten) (left2.eraseIdx j) = runG l left.length dn left := by
                  rw [hfe, hel, ← hrun, hst]; simp
                have hL2 := hL.step hln2 hgj
                rw [← hfe] at hL2 w3
                have hnd2 : (left2.eraseIdx j).Nodup := hln2.sublist (List.eraseIdx_sublist _ _)
                have hsub2 : ∀ g ∈ left2.eraseIdx j, g ∈ left := fun g hg => hsub g (List.mem_of_mem_eraseIdx hg)
                refine ⟨left2.length - 1, by omega, left2.eraseIdx j, outs ++ [g], HJ, Z5 ++ [.tail 23 1], .own (HJ.length + Z5.length), t5, by omega, by omega, fun id hid => (w2 id hid).trans (y2 id hid), w3, hL2, hnd2, hrun2, by rw [List.length_append, hel]; simp; omega, hsub2, htz5.app _, ?_⟩
                rw [hee]
                exact st_keep' (by simp []) (by simp [])
        · exact ⟨left, [], HG, [], .no, .full, rfl, rfl, fun _ _ => rfl, by simpa using x2, hL0, hln, by simp, by simp, fun g h => h, .inl rfl, st_keep' (by simp []) (by simp [])⟩
end Go.Proofs.Ytajgeofhlgoifaa.G

/- Graphs: all, group by group. -/
set_option linter.unusedVariables false
set_option linter.unusedSimpArgs false
set_option maxRecDepth 20000
namespace Go.Proofs.Ytajgeofhlgoifaa.G
open Go Go.Proofs.Ytajgeofhlgoifaa.V Go.Proofs.Ytajgeofhlgoifaa.I Go.Sort Go.RowKit
attribute [-simp] List.length_flatten List.map_flatten
theorem ggrow0_ok (H : AHeap) : ACalls Try.prog 65 [.list [] .full, iv 0] H fun r h' => r = .list [] .no ∧ h' = H := by
  refine acalls_of_awp Try.func65 rfl (by simp only [List.length_cons, List.length_nil]; decide) ?_
  simp only [params_cons, params_nil]
  refine awp_seq ?_
  refine zg ?_
  refine goes_done ?_
  (try simp only [vq, if_true, reduceIte, Nat.reduceEqDiff, reduceCtorEq])
  refine awp_seq ?_
  refine awp_seq ?_
  refine zg ?_
  refine goes_done ?_
  (try simp only [vq, if_true, reduceIte, Nat.reduceEqDiff, reduceCtorEq])
  refine awp_cond_f rfl ?_
  refine awp_skip ?_
  simp only [vq, if_true, reduceIte, Nat.reduceEqDiff, reduceCtorEq]
  refine awp_seq ?_
  refine awp_seq ?_
  refine awp_region_at 2 rfl rfl ?_
  refine zn ?_
  refine goes_done ?_
  refine aops_cap0 rfl rfl Try.underlying23 rfl ?_
  refine aops_end ?_
  refine zn ?_
  refine goes_done ?_
  (try simp only [vq, if_true, reduceIte, Nat.reduceEqDiff, reduceCtorEq])
  repeat (first | ((first | refine zd ?_ | refine zx ?_ | refine zk ?_ | refine zl ?_ | refine zr ?_); refine zq ?_) | refine zs ?_ | refine zg ?_ | refine zb ?_ | refine zo ?_ | refine zt ?_ | refine zf ?_)
  first | refine zY (.inr rfl) ?_ | refine zY (.inl rfl) ?_
  simp
theorem ggrow_ok (n : Nat) (hn : 0 < n) (hl : n ≤ 1000000) (H : AHeap) : ACalls Try.prog 65 [.list [] .full, iv (n : Nat)] H fun r h' => ∃ c' cs, r = .arr H.length 0 0 c' ∧ n ≤ c' ∧ cs.length = c' * 3 ∧ h' = H ++ [.cells cs] := by
  have b1 : n * 24 ≤ 140737488355328 ∧ n ≤ 140737488355328 := by omega
  have q1 : ¬ ((n : Int) < 0) := by omega
  have q2 : (0 : Int) < (n : Int) := by omega
  refine acalls_of_awp Try.func65 rfl (by simp only [List.length_cons, List.length_nil]; decide) ?_
  simp only [params_cons, params_nil]
  refine awp_seq ?_
  refine zg ?_
  refine goes_done ?_
  (try simp only [vq, if_true, reduceIte, Nat.reduceEqDiff, reduceCtorEq])
  refine awp_seq ?_
  refine awp_seq ?_
  refine zh (by simp -implicitDefEqProofs (disch := (first | omega | (simp; done) | fail)) [if_pos, if_neg, wrap_i64, tmod_pos, tdiv_pos, Int.toNat_add, q1]; rfl) ?_
  refine goes_done ?_
  (try simp only [vq, if_true, reduceIte, Nat.reduceEqDiff, reduceCtorEq])
  refine awp_cond_f rfl ?_
  refine awp_skip ?_
  simp only [vq, if_true, reduceIte, Nat.reduceEqDiff, reduceCtorEq]
  refine awp_seq ?_
  refine awp_seq ?_
  refine awp_region_at 2 rfl rfl ?_
  refine zn ?_
  refine goes_done ?_
  refine aops_cap0 rfl rfl Try.underlying23 rfl ?_
  refine aops_end ?_
  refine zn ?_
  refine goes_done ?_
  (try simp only [vq, if_true, reduceIte, Nat.reduceEqDiff, reduceCtorEq])
  refine awp_seq ?_
  refine zh (by simp -implicitDefEqProofs (disch := (first | omega | (simp; done) | fail)) [if_pos, if_neg, wrap_i64, tmod_pos, tdiv_pos, Int.toNat_add, q2, hn]; rfl) ?_
  refine goes_done ?_
  (try simp only [vq, if_true, reduceIte, Nat.reduceEqDiff, reduceCtorEq])
  refine awp_cond_t rfl ?_
  refine awp_region_at 2 rfl rfl ?_
  refine zn ?_
  refine goes_done ?_
  refine aops_cap0 rfl rfl Try.underlying23 rfl ?_
  refine aops_run (l1 := [_, _]) ?_
  refine zn ?_
  refine goes_done ?_
  refine aops_append_zeros (k := 3) (by_ := 24) (m := n) (zc := [iv 0, iv 0, iv 0]) rfl rfl Try.underlying23 ⟨_, Try.underlying3⟩ (by rfl) (by rfl) (by rfl) rfl (by decide) hn b1.1 b1.2 rfl rfl ?_
  intro c' hc'
  refine aops_end ?_
  refine zn ?_
  refine goes_done ?_
  (try simp only [vq, if_true, reduceIte, Nat.reduceEqDiff, reduceCtorEq])
  repeat (first | ((first | refine zd ?_ | refine zx ?_ | refine zk ?_ | refine zl ?_ | refine zr ?_); refine zq ?_) | refine zs ?_ | refine zg ?_ | refine zb ?_ | refine zo ?_ | refine zt ?_ | refine zf ?_)
  first | refine body_all (.inr rfl) (by simp -implicitDefEqProofs; rfl) (by simp -implicitDefEqProofs; rfl) (by first | (simp; done) | (simp; omega) | omega) ?_ | refine body_all (.inl rfl) (by simp -implicitDefEqProofs; rfl) (by simp -implicitDefEqProofs; rfl) (by first | (simp; done) | (simp; omega) | omega) ?_
  exact ⟨c', _, rfl, hc', List.length_replicate, rfl⟩
theorem flat_take_le (gs : List (List Iid)) (i : Nat) : (gs.take i).flatten.length ≤ gs.flatten.length := by
  have h : gs.flatten = (gs.take i).flatten ++ (gs.drop i).flatten := by rw [← List.flatten_append, List.take_append_drop]
  rw [h, List.length_append]; omega
theorem gconcat_ok (gs : List (List Iid)) (t : Tok) (hn : gs.length ≤ 100000) (hne : ∀ g ∈ gs, g ≠ []) (hl : gs.flatten.length ≤ 100000) (H : AHeap) : ACalls Try.prog 46 [.list (gs.map lv) t] H fun r h' => r = lv gs.flatten ∧ ∃ X, h' = H ++ X := by
  have hu := lv_uni gs
  refine acalls_of_awp Try.func46 rfl (by simp only [List.length_cons, List.length_nil]; decide) ?_
  simp only [params_cons, params_nil]
  refine awp_seq ?_
  refine zg ?_
  refine goes_done ?_
  (try simp only [vq, if_true, reduceIte, Nat.reduceEqDiff, reduceCtorEq])
  refine awp_seq ?_
  refine zg ?_
  refine goes_done ?_
  (try simp only [vq, if_true, reduceIte, Nat.reduceEqDiff, reduceCtorEq])
  refine awp_seq ?_
  refine awp_seq ?_
  refine zg ?_
  refine goes_done ?_
  (try simp only [vq, if_true, reduceIte, Nat.reduceEqDiff, reduceCtorEq])
  refine AWP.mono (Q := fun e st => e = .normal ∧ st.le ⟨Try.f46.ntmps, [(0, .list (gs.map lv) t), (3, iv (gs.flatten.length : Nat))], H⟩) ?_ ?_
  · refine awp_block ?_
    refine awp_loop (fun z st => ∃ (i : Nat), z = gs.length - i ∧ i ≤ gs.length ∧ st.le ⟨Try.f46.ntmps, [(0, .list (gs.map lv) t), (3, iv ((gs.take i).flatten.length : Nat)), (9, .list (gs.map lv) t), (10, iv (gs.length : Nat)), (11, iv (i : Nat))], H⟩) gs.length ?_ ?_
    rotate_left
    rintro z st ⟨i, rfl, hi, hle⟩
    · refine awp_le hle ?_
      clear hle
      by_cases h9 : i = gs.length
      · subst h9
        rw [List.take_length]
        have q : ¬ (gs.length : Int) < (gs.length : Int) := by omega
        refine awp_seq ?_
        refine zh (by simp -implicitDefEqProofs (disch := (first | omega | (simp; done) | fail)) [if_pos, if_neg, wrap_i64, tmod_pos, tdiv_pos, Int.toNat_add, q]; rfl) ?_
        refine goes_done ?_
        (try simp only [vq, if_true, reduceIte, Nat.reduceEqDiff, reduceCtorEq])
        refine awp_seq ?_
        refine awp_cond_f rfl ?_
        refine awp_exit ?_
        (try simp only [vq, if_true, reduceIte, Nat.reduceEqDiff, reduceCtorEq])
        exact ⟨trivial, st_keep' (by simp []) (by simp [])⟩
      · have hlt : i < gs.length := by omega
        have q : (i : Int) < (gs.length : Int) := by omega
        have hx2 : (gs.map lv)[i]? = some (lv gs[i]) := by simp [hlt]
        have htk : (gs.take (i + 1)).flatten.length = (gs.take i).flatten.length + gs[i].length := by rw [List.take_succ_eq_append_getElem hlt, List.flatten_append, List.length_append]; simp only [List.flatten_cons, List.flatten_nil, List.append_nil]
        have hb : (gs.take (i + 1)).flatten.length ≤ gs.flatten.length := flat_take_le gs (i + 1)
        generalize gs[i] = g at *
        generalize (gs.take i).flatten.length = m at *
        have q2 : ¬ ((m : Int) + (g.length : Int) < 0) := by omega
        refine awp_seq ?_
        refine zh (by simp -implicitDefEqProofs (disch := (first | omega | (simp; done) | fail)) [if_pos, if_neg, wrap_i64, tmod_pos, tdiv_pos, Int.toNat_add, q]; rfl) ?_
        refine goes_done ?_
        (try simp only [vq, if_true, reduceIte, Nat.reduceEqDiff, reduceCtorEq])
        refine awp_seq ?_
        refine awp_cond_t rfl ?_
        refine awp_skip ?_
        simp only [vq, if_true, reduceIte, Nat.reduceEqDiff, reduceCtorEq]
        repeat (first | ((first | refine zd ?_ | refine zx ?_ | refine zk ?_ | refine zl ?_ | refine zr ?_); refine zq ?_) | refine zs ?_ | refine zh (by simp -implicitDefEqProofs (disch := (first | omega | (simp; done) | fail)) [if_pos, if_neg, wrap_i64, tmod_pos, tdiv_pos, Int.toNat_add, hx2, hu, q, q2, lv]; rfl) ?_ | refine zb ?_ | refine zo ?_ | refine zt ?_ | refine zf ?_)
        refine ⟨gs.length - (i + 1), by omega, i + 1, rfl, hlt, ?_⟩
        rw [htk]
        exact st_keep' (by simp []) (by simp [])
    · exact ⟨0, rfl, by omega, st_keep' (by simp []) (by simp [])⟩
  · rintro e st2 ⟨rfl, hle⟩
    simp only [vq, if_true, reduceIte, Nat.reduceEqDiff, reduceCtorEq]
    refine awp_le hle ?_
    clear hle
    by_cases h0 : gs = []
    · subst h0
      refine awp_seq ?_
      repeat (first | ((first | refine zd ?_ | refine zx ?_ | refine zk ?_ | refine zl ?_ | refine zr ?_); refine zq ?_) | refine zs ?_ | refine zg ?_ | refine zb ?_ | refine zo ?_ | refine zt ?_ | refine zf ?_)
      refine goes_call (callable_of Try.func65) _ (ggrow0_ok H) ?_
      rintro _ H9 ⟨rfl, hH9⟩
      rw [hH9]
      clear hH9
      refine ze ?_
      refine goes_done ?_
      (try simp only [vq, if_true, reduceIte, Nat.reduceEqDiff, reduceCtorEq])
      refine awp_seq ?_
      refine awp_seq ?_
      refine zg ?_
      refine goes_done ?_
      (try simp only [vq, if_true, reduceIte, Nat.reduceEqDiff, reduceCtorEq])
      refine awp_block ?_
      refine awp_loop (fun z st => st.le ⟨Try.f46.ntmps, [(6, .list [] .no), (25, .list [] t), (26, iv 0), (27, iv 0)], H⟩) 0 ?_ ?_
      rotate_left
      rintro z st hle
      · refine awp_le hle ?_
        clear hle
        repeat (first | ((first | refine zd ?_ | refine zx ?_ | refine zk ?_ | refine zl ?_ | refine zr ?_); refine zq ?_) | refine zs ?_ | refine zg ?_ | refine zb ?_ | refine zo ?_ | refine zt ?_ | refine zf ?_)
        first | refine body_all (.inr rfl) (by simp -implicitDefEqProofs; rfl) (by simp -implicitDefEqProofs; rfl) (by first | (simp; done) | (simp; omega) | omega) ?_ | refine body_all (.inl rfl) (by simp -implicitDefEqProofs; rfl) (by simp -implicitDefEqProofs; rfl) (by first | (simp; done) | (simp; omega) | omega) ?_
        exact ⟨rfl, [], by simp⟩
      · exact st_keep' (by simp []) (by simp [])
    · have hpos : 0 < gs.flatten.length := by
        cases gs with
        | nil => exact absurd rfl h0
        | cons g gs =>
          have := List.length_pos_iff.2 (hne g (by simp))
          rw [List.flatten_cons, List.length_append]; omega
      have hgr := ggrow_ok gs.flatten.length hpos (by omega) H
      refine awp_seq ?_
      repeat (first | ((first | refine zd ?_ | refine zx ?_ | refine zk ?_ | refine zl ?_ | refine zr ?_); refine zq ?_) | refine zs ?_ | refine zg ?_ | refine zb ?_ | refine zo ?_ | refine zt ?_ | refine zf ?_)
      refine goes_call (callable_of Try.func65) _ hgr ?_
      rintro _ _ ⟨c', cs, rfl, hc', hcl, rfl⟩
      refine ze ?_
      refine goes_done ?_
      (try simp only [vq, if_true, reduceIte, Nat.reduceEqDiff, reduceCtorEq])
      refine awp_seq ?_
      refine awp_seq ?_
      refine zg ?_
      refine goes_done ?_
      (try simp only [vq, if_true, reduceIte, Nat.reduceEqDiff, reduceCtorEq])
      refine awp_block ?_
      refine awp_loop (fun z st => ∃ (i : Nat) (ccs : List AV), z = gs.length - i ∧ i ≤ gs.length ∧ ccs.length = c' * 3 ∧ ccs.take ((gs.take i).flatten.length * 3) = (gs.take i).flatten.flatMap Iid.c ∧ st.le ⟨Try.f46.ntmps, [(6, .arr H.length 0 (gs.take i).flatten.length c'), (25, .list (gs.map lv) t), (26, iv (gs.length : Nat)), (27, iv (i : Nat))], H ++ [.cells ccs]⟩) gs.length ?_ ?_
      rotate_left
      rintro z st ⟨i, ccs, rfl, hi, w1, w2, hle⟩
      · refine awp_le hle ?_
        clear hle
        by_cases h9 : i = gs.length
        · subst h9
          rw [List.take_length] at w2 ⊢
          have q : ¬ (gs.length : Int) < (gs.length : Int) := by omega
          refine awp_seq ?_
          refine zh (by simp -implicitDefEqProofs (disch := (first | omega | (simp; done) | fail)) [if_pos, if_neg, wrap_i64, tmod_pos, tdiv_pos, Int.toNat_add, q]; rfl) ?_
          refine goes_done ?_
          (try simp only [vq, if_true, reduceIte, Nat.reduceEqDiff, reduceCtorEq])
          refine awp_seq ?_
          refine awp_cond_f rfl ?_
          refine awp_exit ?_
          (try simp only [vq, if_true, reduceIte, Nat.reduceEqDiff, reduceCtorEq])
          refine awp_fixs (id := H.length) (n := gs.flatten.length) (c := c') (k := 3) (cs := ccs) (xs := gs.flatten.map Iid.av) (by simp) ?_ (by simp) (uni_map fun _ => rfl) (by omega) (by omega) ?_
          · rw [flc_cells]; exact w2
          repeat (first | ((first | refine zd ?_ | refine zx ?_ | refine zk ?_ | refine zl ?_ | refine zr ?_); refine zq ?_) | refine zs ?_ | refine zh (by simp -implicitDefEqProofs (disch := (first | omega | (simp; done) | fail)) [if_pos, if_neg, wrap_i64, tmod_pos, tdiv_pos, Int.toNat_add, Slots.thaw, AV.thaw]; rfl) ?_ | refine zb ?_ | refine zo ?_ | refine zt ?_ | refine zf ?_)
          first | refine body_all (.inr rfl) (by simp -implicitDefEqProofs; rfl) (by simp -implicitDefEqProofs; rfl) (by first | (simp; done) | (simp; omega) | omega) ?_ | refine body_all (.inl rfl) (by simp -implicitDefEqProofs; rfl) (by simp -implicitDefEqProofs; rfl) (by first | (simp; done) | (simp; omega) | omega) ?_
          exact ⟨rfl, _, rfl⟩
        · have hlt : i < gs.length := by omega
          have q : (i : Int) < (gs.length : Int) := by omega
          have hx2 : (gs.map lv)[i]? = some (lv gs[i]) := by simp [hlt]
          have htf : (gs.take (i + 1)).flatten = (gs.take i).flatten ++ gs[i] := by rw [List.take_succ_eq_append_getElem hlt, List.flatten_append]; simp
          have hb := flat_take_le gs (i + 1)
          rw [htf] at hb
          generalize gs[i] = g at *
          generalize (gs.take i).flatten = F at *
          rw [List.length_append] at hb
          have b1 : (F.length + (g.map Iid.av).length) * 24 ≤ 140737488355328 ∧ F.length + (g.map Iid.av).length ≤ 140737488355328 := by rw [List.length_map]; omega
          refine awp_seq ?_
          refine zh (by simp -implicitDefEqProofs (disch := (first | omega | (simp; done) | fail)) [if_pos, if_neg, wrap_i64, tmod_pos, tdiv_pos, Int.toNat_add, q]; rfl) ?_
          refine goes_done ?_
          (try simp only [vq, if_true, reduceIte, Nat.reduceEqDiff, reduceCtorEq])
          refine awp_seq ?_
          refine awp_cond_t rfl ?_
          refine awp_skip ?_
          simp only [vq, if_true, reduceIte, Nat.reduceEqDiff, reduceCtorEq]
          refine awp_seq ?_
          refine awp_block ?_
          refine awp_seq ?_
          refine zh (by simp -implicitDefEqProofs (disch := (first | omega | (simp; done) | fail)) [if_pos, if_neg, wrap_i64, tmod_pos, tdiv_pos, Int.toNat_add, hx2, hu, q, lv]; rfl) ?_
          refine goes_done ?_
          (try simp only [vq, if_true, reduceIte, Nat.reduceEqDiff, reduceCtorEq])
          refine awp_region_at 2 rfl rfl ?_
          refine zn ?_
          refine goes_done ?_
          refine aops_append_ks (e := 25) (k := 3) (by_ := 24) (m := F.length) (c := c') (cs := ccs) (zc := [iv 0, iv 0, iv 0]) (ys := g.map Iid.av) rfl rfl Try.underlying23 (by rfl) (by rfl) (by rfl) rfl (by decide) (iid_uni g) (iid_onesL g) (.arr _ _ _ _ (by simp) w1 (by omega) (by omega)) (by simp) b1.1 b1.2 ?_
          refine ⟨fun hr id' hid => ?_, (fun e => by cases e), (fun hr => absurd hr (by rw [List.length_map]; omega))⟩
          injection hid with hid
          subst hid
          rw [flc_cells, List.length_map]
          have o1 : (V.over ccs (F.length * 3) (g.flatMap Iid.c)).length = c' * 3 := by rw [over_len (by rw [flc_len]; omega)]; exact w1
          have o2 : (V.over ccs (F.length * 3) (g.flatMap Iid.c)).take ((F ++ g).length * 3) = (F ++ g).flatMap Iid.c := by
            have e : (F ++ g).length * 3 = F.length * 3 + g.length * 3 := by rw [List.length_append, Nat.add_mul]
            unfold V.over
            rw [e, List.flatMap_append, ← w2, List.take_append_of_le_length (by rw [List.length_append, List.length_take, flc_len]; omega), List.take_of_length_le (by rw [List.length_append, List.length_take, flc_len]; omega)]
          rw [← htf] at o2
          generalize V.over ccs (F.length * 3) (g.flatMap Iid.c) = ccs2 at *
          refine aops_end ?_
          refine zn ?_
          refine goes_done ?_
          (try simp only [vq, if_true, reduceIte, Nat.reduceEqDiff, reduceCtorEq])
          repeat (first | ((first | refine zd ?_ | refine zx ?_ | refine zk ?_ | refine zl ?_ | refine zr ?_); refine zq ?_) | refine zs ?_ | refine zg ?_ | refine zb ?_ | refine zo ?_ | refine zt ?_ | refine zf ?_)
          refine ⟨gs.length - (i + 1), by omega, i + 1, ccs2, rfl, hlt, o1, o2, ?_⟩
          rw [htf, List.length_append]
          exact st_keep' (by simp []) (by simp [])
      · exact ⟨0, cs, rfl, by omega, hcl, by simp, st_keep' (by simp []) (by simp [])⟩
end Go.Proofs.Ytajgeofhlgoifaa.G

/- Graphs: the document's example, in plain words. -/
set_option linter.unusedVariables false
set_option linter.unusedSimpArgs false
set_option maxRecDepth 20000
namespace Go.Proofs.Ytajgeofhlgoifaa.G
open Go Go.Proofs.Ytajgeofhlgoifaa.V Go.Proofs.Ytajgeofhlgoifaa.I Go.Sort Go.RowKit
def ia : Iid := ⟨0, 1, 0⟩
def ib : Iid := ⟨0, 2, 0⟩
def ic : Iid := ⟨0, 3, 0⟩
def L3 : List Nod := [⟨ia, 2, [ib]⟩, ⟨ib, 1, [ia]⟩, ⟨ic, 0, [ia]⟩]
def L1 : List Nod := [⟨ia, 2, [ib]⟩]
theorem lead_in {dp : Iid → List Iid} {dn S : List Iid} {f y : Iid} (h1 : ∀ y ∈ dp f, y ∈ S) (h2 : ∀ x ∈ S, ∀ y ∈ dp x, y ∈ S) (h : Lead dp dn f y) : y ∈ S := by
  induction h with
  | first h => exact h1 _ h
  | next _ _ h ih => exact h2 _ ih _ h
theorem rt_in {dp : Iid → List Iid} {dn S : List Iid} {x y : Iid} (h2 : ∀ x ∈ S, ∀ y ∈ dp x, y ∈ S) (h : Tar.Rt dp (dnB dn) x y) (hx : x ∈ S) : y ∈ S :=
  Tar.Rt.closed (S := fun x => x ∈ S) (fun x y hx hs => h2 x hx y hs.1) h hx
theorem dp3a : dpOf L3 ia = [ib] := by decide
theorem dp3b : dpOf L3 ib = [ia] := by decide
theorem dp3c : dpOf L3 ic = [ia] := by decide
theorem cl3 : ∀ x ∈ [ia, ib], ∀ y ∈ dpOf L3 x, y ∈ [ia, ib] := by decide
theorem cl3c : ∀ x ∈ [ia, ib, ic], ∀ y ∈ dpOf L3 x, y ∈ [ia, ib, ic] := by decide
theorem reach3 (y : Iid) : Lead (dpOf L3) [] ic y ↔ y ∈ [ia, ib] := by
  constructor
  · exact fun h => lead_in (by decide) cl3 h
  · have h1 : Lead (dpOf L3) [] ic ia := .first (by decide)
    have h2 : Lead (dpOf L3) [] ic ib := .next h1 (by simp) (by decide)
    intro h
    simp at h
    rcases h with rfl | rfl
    · exact h1
    · exact h2
theorem can3 (y : Iid) : CanDo L3 [] y ↔ y ∈ [ia, ib, ic] := by
  constructor
  · exact fun h => h.1
  · intro h
    refine ⟨h, by simp, fun x hx => .inl ?_⟩
    exact lead_in (S := [ia, ib, ic]) (fun z hz => cl3c y h z hz) cl3c hx
theorem can1 (y : Iid) : ¬ CanDo L1 [] y := fun h => by
  obtain ⟨h1, _, h3⟩ := h
  have : y = ia := by simpa [L1] using h1
  subst this
  have := h3 ib (.first (by decide))
  revert this
  decide
theorem gs3 : GsG L3 [] [[ib, ia], [ic]] := by
  have sab : Tar.Rt (dpOf L3) (dnB []) ia ib := .one ⟨by decide, by decide⟩
  have sba : Tar.Rt (dpOf L3) (dnB []) ib ia := .one ⟨by decide, by decide⟩
  refine ⟨fun g hg => ?_, by decide, fun x => ?_, by decide, by decide⟩
  · simp at hg
    rcases hg with rfl | rfl
    · refine ⟨by simp, fun x hx y hy => ?_, fun x hx y h1 h2 => ?_⟩
      · simp at hx hy
        rcases hx with rfl | rfl <;> rcases hy with rfl | rfl
        · exact .refl _
        · exact sba
        · exact sab
        · exact .refl _
      · have : y ∈ [ia, ib] := rt_in cl3 h1 (by simp at hx ⊢; exact hx.symm)
        simp at this ⊢
        exact this.symm
    · refine ⟨by simp, fun x hx y hy => ?_, fun x hx y h1 h2 => ?_⟩
      · simp at hx hy; subst hx; subst hy; exact .refl _
      · simp at hx; subst hx
        have h3 : y ∈ [ia, ib, ic] := rt_in cl3c h1 (by simp)
        by_cases hy : y ∈ [ia, ib]
        · exact absurd (rt_in cl3 h2 hy) (by decide)
        · simp at h3 hy ⊢
          rcases h3 with h | h | h
          · exact absurd h hy.1
          · exact absurd h hy.2
          · exact h
  · rw [can3]
    constructor <;> (intro h; simp at h ⊢; rcases h with h | h | h <;> simp [h])
theorem run3 {gs : List (List Iid)} (G : GsG L3 [] gs) : runG L3 gs.length [] gs = [[ib, ia], [ic]] := by
  rw [G.unique (keyC_ok L3) less_lt gs3]
  decide
theorem ris_len {rs S : List Iid} (hr : Ris rs) (hS : S.Nodup) (h : ∀ y, y ∈ rs ↔ y ∈ S) : rs.length = S.length := by
  have h1 := List.Nodup.length_le_of_subset (ris_nodup0 hr) (l₂ := S) fun y hy => (h y).1 hy
  have h2 := List.Nodup.length_le_of_subset hS (l₂ := rs) fun y hy => (h y).2 hy
  omega
end Go.Proofs.Ytajgeofhlgoifaa.G

/- Graphs: the document's example. -/
set_option linter.unusedVariables false
set_option linter.unusedSimpArgs false
set_option maxRecDepth 20000
namespace Go.Proofs.Ytajgeofhlgoifaa.G
open Go Go.Proofs.Ytajgeofhlgoifaa.V Go.Proofs.Ytajgeofhlgoifaa.I Go.Sort Go.RowKit
attribute [-simp] List.length_flatten List.map_flatten
theorem flatG_ok (gs : List (List Iid)) (t : Tok) (hn : gs.length ≤ 100000) (hne : ∀ g ∈ gs, g ≠ []) (hl : gs.flatten.length ≤ 100000) (H : AHeap) : ACalls Try.prog 22 [.list (gs.map lv) t] H fun r h' => r = lv gs.flatten ∧ ∃ X, h' = H ++ X := by
  have hc := fun h => gconcat_ok gs .no hn hne hl h
  refine acalls_of_awp Try.func22 rfl (by simp only [List.length_cons, List.length_nil]; decide) ?_
  simp only [params_cons, params_nil]
  repeat (first | ((first | refine zd ?_ | refine zx ?_ | refine zk ?_ | refine zl ?_ | refine zr ?_); refine zq ?_) | refine zs ?_ | refine zg ?_ | refine zb ?_ | refine zo ?_ | refine zt ?_ | refine zf ?_)
  refine zp (callable_of Try.func46) _ (hc _) ?_
  rintro _ _ ⟨rfl, X, rfl⟩
  refine goes_eq (by simp -implicitDefEqProofs (disch := (first | omega | (simp; done) | fail)) [if_pos, if_neg, wrap_i64, tmod_pos, tdiv_pos, Int.toNat_add, lv]; rfl) ?_
  repeat (first | ((first | refine zd ?_ | refine zx ?_ | refine zk ?_ | refine zl ?_ | refine zr ?_); refine zq ?_) | refine zs ?_ | refine zg ?_ | refine zb ?_ | refine zo ?_ | refine zt ?_ | refine zf ?_)
  first | refine body_all (.inr rfl) (by simp -implicitDefEqProofs; rfl) (by simp -implicitDefEqProofs; rfl) (by first | (simp; done) | (simp; omega) | omega) ?_ | refine body_all (.inl rfl) (by simp -implicitDefEqProofs; rfl) (by simp -implicitDefEqProofs; rfl) (by first | (simp; done) | (simp; omega) | omega) ?_
  exact ⟨rfl, _, rfl⟩
theorem at_ok (ks : List Iid) (x : Iid) (t : Tok) (hl : ks.length ≤ 100000) (H : AHeap) : ACalls Try.prog 24 [.list (ks.map Iid.av) t, Iid.av x] H fun r h' => r = iv (idxI x ks) ∧ h' = H := by
  have hu : uni 3 (ks.map Iid.av) = true := uni_map fun _ => rfl
  show ACalls _ _ [.list (ks.map Iid.av) t, .agg [iv x.e, iv x.n, iv x.o]] _ _
  refine acalls_of_awp Try.func24 rfl (by simp only [List.length_cons, List.length_nil]; decide) ?_
  simp only [params_cons, params_nil]
  refine awp_seq ?_
  refine zg ?_
  refine goes_done ?_
  (try simp only [vq, if_true, reduceIte, Nat.reduceEqDiff, reduceCtorEq])
  refine awp_hard (id := H.length) (by simp -implicitDefEqProofs; rfl) ?_
  simp -implicitDefEqProofs only [Slots.melt, AV.melt, Nat.add_left_cancel_iff, Nat.add_eq_left, Nat.left_eq_add, Nat.reduceEqDiff, reduceIte, Nat.succ_ne_self, Nat.one_ne_zero, Nat.zero_ne_one, List.set_append_right, List.set_append_left, Nat.sub_self, Nat.le_refl, Nat.add_sub_cancel_left, Nat.le_add_right, List.set_cons_zero, List.set_cons_succ]
  refine awp_seq ?_
  refine awp_seq ?_
  refine zg ?_
  refine goes_done ?_
  (try simp only [vq, if_true, reduceIte, Nat.reduceEqDiff, reduceCtorEq])
  refine awp_block ?_
  refine awp_loop (fun z st => ∃ (i : Nat) (X : AHeap), z = ks.length - i ∧ i ≤ ks.length ∧ (∀ j (h : j < ks.length), j < i → ks[j] ≠ x) ∧ st.le ⟨Try.f24.ntmps, [(0, .list (ks.map Iid.av) t), (3, .ref [iv x.e, iv x.n, iv x.o] 0), (5, iv (i : Nat))], H ++ X⟩) ks.length ?_ ?_
  rotate_left
  rintro z st ⟨i, X, rfl, hi, hno, hle⟩
  · refine awp_le hle ?_
    clear hle
    by_cases h9 : i = ks.length
    · subst h9
      have q : ¬ (ks.length : Int) < (ks.length : Int) := by omega
      repeat (first | ((first | refine zd ?_ | refine zx ?_ | refine zk ?_ | refine zl ?_ | refine zr ?_); refine zq ?_) | refine zs ?_ | refine zh (by simp -implicitDefEqProofs (disch := (first | omega | (simp; done) | fail)) [if_pos, if_neg, wrap_i64, tmod_pos, tdiv_pos, Int.toNat_add, q]; rfl) ?_ | refine zb ?_ | refine zo ?_ | refine zt ?_ | refine zf ?_)
      first | refine zy (.inr rfl) ?_ | refine zy (.inl rfl) ?_
      simp [idxI]
      intro hx
      obtain ⟨j, hj, e⟩ := List.getElem_of_mem hx
      exact absurd e (hno j hj hj)
    · have hlt : i < ks.length := by omega
      have q : (i : Int) < (ks.length : Int) := by omega
      have hx2 : (ks.map Iid.av)[i]? = some (Iid.av ks[i]) := by simp [hlt]
      have hne := eqb0 ks[i] x
      generalize hk : ks[i] = k at *
      refine awp_seq ?_
      refine awp_seq ?_
      refine zh (by simp -implicitDefEqProofs (disch := (first | omega | (simp; done) | fail)) [if_pos, if_neg, wrap_i64, tmod_pos, tdiv_pos, Int.toNat_add, q]; rfl) ?_
      refine goes_done ?_
      (try simp only [vq, if_true, reduceIte, Nat.reduceEqDiff, reduceCtorEq])
      refine awp_cond_t rfl ?_
      refine awp_skip ?_
      simp only [vq, if_true, reduceIte, Nat.reduceEqDiff, reduceCtorEq]
      refine awp_seq ?_
      refine awp_block ?_
      refine awp_seq ?_
      by_cases hx : k = x
      · rw [decide_eq_true hx] at hne
        refine awp_draw (.q 0 (.q 1 (.q 2 (.q 3 (.q 4 (.q 5 (.done))))))) (by kernel_rfl) (by kernel_rfl) (tree_start (goesT_eq (by simp -implicitDefEqProofs (disch := (first | omega | (simp; done) | fail)) [if_pos, if_neg, wrap_i64, tmod_pos, tdiv_pos, Int.toNat_add, hx2, hu, q, hne, Iid.av, Iid.c]; rfl) ?_))
        refine goesT_done ?_
        (try simp only [vq, if_true, reduceIte, Nat.reduceEqDiff, reduceCtorEq])
        repeat (first | ((first | refine zd ?_ | refine zx ?_ | refine zk ?_ | refine zl ?_ | refine zr ?_); refine zq ?_) | refine zs ?_ | refine zg ?_ | refine zb ?_ | refine zo ?_ | refine zt ?_ | refine zf ?_)
        first | refine zy (.inr rfl) ?_ | refine zy (.inl rfl) ?_
        have hm : x ∈ ks := by rw [← hx, ← hk]; exact List.getElem_mem hlt
        have e : ks.idxOf x = i := by
          have h1 := List.idxOf_lt_length_of_mem hm
          have h2 : ks[ks.idxOf x] = x := List.getElem_idxOf h1
          have h3 : ks.idxOf x ≤ i := idx_le (by rw [List.getElem?_eq_getElem hlt, hk, hx])
          rcases Nat.lt_or_ge (ks.idxOf x) i with h | h
          · exact absurd h2 (hno _ h1 h)
          · omega
        simp [idxI, hm, e]
      · rw [decide_eq_false hx] at hne
        refine awp_draw (.q 0 (.q 1 (.q 2 (.q 3 (.q 4 (.q 5 (.done))))))) (by kernel_rfl) (by kernel_rfl) (tree_start (goesT_eq (by simp -implicitDefEqProofs (disch := (first | omega | (simp; done) | fail)) [if_pos, if_neg, wrap_i64, tmod_pos, tdiv_pos, Int.toNat_add, hx2, hu, q, hne, Iid.av, Iid.c]; rfl) ?_))
        refine goesT_done ?_
        (try simp only [vq, if_true, reduceIte, Nat.reduceEqDiff, reduceCtorEq])
        repeat (first | ((first | refine zd ?_ | refine zx ?_ | refine zk ?_ | refine zl ?_ | refine zr ?_); refine zq ?_) | refine zs ?_ | refine zg ?_ | refine zb ?_ | refine zo ?_ | refine zt ?_ | refine zf ?_)
        refine ⟨ks.length - (i + 1), by omega, i + 1, X, rfl, hlt, fun j h hj => ?_, st_keep' (by simp []) (by simp [])⟩
        by_cases e : j = i
        · subst e; rw [hk]; exact hx
        · exact hno j h (by omega)
  · exact ⟨0, [.dead], rfl, by omega, by omega, st_keep' (by simp []) (by simp [])⟩
theorem dp_two (l : List Nod) (f : Iid) : (dpOf l f).length + sumL l [] ≤ 2 * sumL l [] := by
  have h1 := dp_sumE l f
  have h2 := sumL_snoc f [] (by simp) l
  omega
def l3v (t : Tok) : AV := .list [.agg [iv 0, iv 1, iv 0, iv 2, .list [.agg [iv 0, iv 2, iv 0]] .no], .agg [iv 0, iv 2, iv 0, iv 1, .list [.agg [iv 0, iv 1, iv 0]] .no], .agg [iv 0, iv 3, iv 0, iv 0, .list [.agg [iv 0, iv 1, iv 0]] .no]] t
def l1v (t : Tok) : AV := .list [.agg [iv 0, iv 1, iv 0, iv 2, .list [.agg [iv 0, iv 2, iv 0]] .no]] t
def o3v : List AV := [.list [.agg [iv 0, iv 2, iv 0], .agg [iv 0, iv 1, iv 0]] .no, .list [.agg [iv 0, iv 3, iv 0]] .no]
theorem worder (h : AHeap) : ACalls Try.prog 13 [l3v .no, .list [] .no] h fun r h' => r = .list o3v .no ∧ ∃ X, h' = h ++ X :=
  (order_ok L3 [] .no .no (by decide) (by decide) (fun f => Nat.le_trans (dp_two L3 f) (by decide)) h).mono fun r h' ⟨hX, _, hr⟩ => by
    obtain ⟨out, ⟨gs, hG, _, rfl⟩, rfl⟩ := hr (by decide)
    rw [run3 hG]
    exact ⟨rfl, hX⟩
theorem wflat (h : AHeap) : ACalls Try.prog 22 [.list o3v .no] h fun r h' => r = .list [.agg [iv 0, iv 2, iv 0], .agg [iv 0, iv 1, iv 0], .agg [iv 0, iv 3, iv 0]] .no ∧ ∃ X, h' = h ++ X :=
  (flatG_ok [[ib, ia], [ic]] .no (by decide) (by decide) (by decide) h).mono fun r h' ⟨e, hX⟩ => ⟨e, hX⟩
theorem wvalid (h : AHeap) : ACalls Try.prog 16 [l3v .no] h fun r h' => r = .bool true ∧ ∃ X, h' = h ++ X :=
  (valid_ok L3 .no (by decide) h).mono fun r h' ⟨e, hX⟩ => ⟨e.trans (congrArg AV.bool (by decide)), hX⟩
theorem wreach (h : AHeap) : ACalls Try.prog 18 [l3v .no, .agg [iv 0, iv 3, iv 0]] h fun r h' => (∃ ks : List AV, r = .list ks .no ∧ ks.length = 2) ∧ ∃ X, h' = h ++ X :=
  (reach_ok L3 ic .no (by decide) (Nat.le_trans (dp_two L3 ic) (by decide)) h).mono fun r h' ⟨rs, X, e, hX, _, hr⟩ => by
    obtain ⟨h1, h2⟩ := hr (by decide)
    refine ⟨⟨_, e, ?_⟩, X, hX⟩
    rw [List.length_map, ris_len h1 (S := [ia, ib]) (by decide) fun y => (h2 y).trans (reach3 y)]
    rfl
theorem wready3 (h : AHeap) : ACalls Try.prog 20 [l3v .no, .list [] .no] h fun r h' => (∃ ks : List AV, r = .list ks .no ∧ ks.length = 3) ∧ ∃ X, h' = h ++ X :=
  (readyF_ok L3 [] .no .no (by decide) (by decide) (fun f => Nat.le_trans (dp_two L3 f) (by decide)) h).mono fun r h' ⟨rs, X, e, hX, _, hr⟩ => by
    obtain ⟨h1, h2⟩ := hr (by decide)
    refine ⟨⟨_, e, ?_⟩, X, hX⟩
    rw [List.length_map, ris_len h1 (S := [ia, ib, ic]) (by decide) fun y => (h2 y).trans (can3 y)]
    rfl
theorem wready1 (h : AHeap) : ACalls Try.prog 20 [l1v .no, .list [] .no] h fun r h' => r = .list [] .no ∧ ∃ X, h' = h ++ X :=
  (readyF_ok L1 [] .no .no (by decide) (by decide) (fun f => Nat.le_trans (dp_two L1 f) (by decide)) h).mono fun r h' ⟨rs, X, e, hX, _, hr⟩ => by
    obtain ⟨h1, h2⟩ := hr (by decide)
    have : rs = [] := by
      cases rs with
      | nil => rfl
      | cons a l => exact absurd ((h2 a).1 (by simp)) (can1 a)
    subst this
    exact ⟨e, X, hX⟩
theorem works_ok (H : AHeap) : ACalls Try.prog 10 [] H fun r h' => r = .bool true ∧ ∃ X, h' = H ++ X := by
  have w1 := worder
  have w2 := wflat
  have w3 := wvalid
  have w4 := wreach
  have w5 := wready3
  have w6 := wready1
  unfold l3v at w1 w3 w4 w5
  unfold l1v at w6
  unfold o3v at w1 w2
  refine acalls_of_awp Try.func10 rfl (by simp only [List.length_cons, List.length_nil]; decide) ?_
  simp only [params_cons, params_nil]
  refine awp_seq ?_
  refine zg ?_
  refine goes_done ?_
  (try simp only [vq, if_true, reduceIte, Nat.reduceEqDiff, reduceCtorEq])
  refine awp_seq ?_
  refine zg ?_
  refine goes_done ?_
  (try simp only [vq, if_true, reduceIte, Nat.reduceEqDiff, reduceCtorEq])
  refine awp_seq ?_
  refine zg ?_
  refine goes_done ?_
  (try simp only [vq, if_true, reduceIte, Nat.reduceEqDiff, reduceCtorEq])
  refine awp_seq ?_
  refine zg ?_
  refine goes_done ?_
  (try simp only [vq, if_true, reduceIte, Nat.reduceEqDiff, reduceCtorEq])
  refine awp_hard (id := H.length) (by simp -implicitDefEqProofs; rfl) ?_
  simp -implicitDefEqProofs only [Slots.melt, AV.melt, Nat.add_left_cancel_iff, Nat.add_eq_left, Nat.left_eq_add, Nat.reduceEqDiff, reduceIte, Nat.succ_ne_self, Nat.one_ne_zero, Nat.zero_ne_one, List.set_append_right, List.set_append_left, Nat.sub_self, Nat.le_refl, Nat.add_sub_cancel_left, Nat.le_add_right, List.set_cons_zero, List.set_cons_succ]
  refine awp_hard (id := H.length + 1) (by simp -implicitDefEqProofs; rfl) ?_
  simp -implicitDefEqProofs only [Slots.melt, AV.melt, Nat.add_left_cancel_iff, Nat.add_eq_left, Nat.left_eq_add, Nat.reduceEqDiff, reduceIte, Nat.succ_ne_self, Nat.one_ne_zero, Nat.zero_ne_one, List.set_append_right, List.set_append_left, Nat.sub_self, Nat.le_refl, Nat.add_sub_cancel_left, Nat.le_add_right, List.set_cons_zero, List.set_cons_succ]
  refine awp_hard (id := H.length + 2) (by simp -implicitDefEqProofs; rfl) ?_
  simp -implicitDefEqProofs only [Slots.melt, AV.melt, Nat.add_left_cancel_iff, Nat.add_eq_left, Nat.left_eq_add, Nat.reduceEqDiff, reduceIte, Nat.succ_ne_self, Nat.one_ne_zero, Nat.zero_ne_one, List.set_append_right, List.set_append_left, Nat.sub_self, Nat.le_refl, Nat.add_sub_cancel_left, Nat.le_add_right, List.set_cons_zero, List.set_cons_succ]
  refine awp_seq ?_
  refine zg ?_
  refine goes_done ?_
  (try simp only [vq, if_true, reduceIte, Nat.reduceEqDiff, reduceCtorEq])
  refine awp_seq ?_
  repeat (first | ((first | refine zd ?_ | refine zx ?_ | refine zk ?_ | refine zl ?_ | refine zr ?_); refine zq ?_) | refine zs ?_ | refine zg ?_ | refine zb ?_ | refine zo ?_ | refine zt ?_ | refine zf ?_)
  refine zp (callable_of Try.func13) _ (w1 _) ?_
  rintro _ _ ⟨rfl, X1, rfl⟩
  refine ze ?_
  refine goes_done ?_
  (try simp only [vq, if_true, reduceIte, Nat.reduceEqDiff, reduceCtorEq])
  refine awp_seq ?_
  repeat (first | ((first | refine zd ?_ | refine zx ?_ | refine zk ?_ | refine zl ?_ | refine zr ?_); refine zq ?_) | refine zs ?_ | refine zg ?_ | refine zb ?_ | refine zo ?_ | refine zt ?_ | refine zf ?_)
  refine zp (callable_of Try.func22) _ (w2 _) ?_
  rintro _ _ ⟨rfl, X2, rfl⟩
  refine ze ?_
  refine goes_done ?_
  (try simp only [vq, if_true, reduceIte, Nat.reduceEqDiff, reduceCtorEq])
  refine awp_seq ?_
  refine awp_draw (.q 0 (.a 1 (.q 2 (.q 3 (.q 4 (.q 5 (.q 6 (.q 7 (.q 8 (.q 9 (.q 10 (.q 11 (.q 12 (.q 13 (.q 14 (.q 15 (.q 16 (.q 17 (.q 18 (.q 19 (.q 20 (.q 21 (.q 22 (.q 23 (.q 24 (.q 25 (.q 26 (.q 27 (.q 28 (.q 29 (.q 30 (.q 31 (.q 32 (.q 33 (.q 34 (.q 35 (.q 36 (.q 37 (.a 38 (.q 39 (.q 40 (.q 41 (.q 42 (.q 43 (.a 44 (.q 45 (.q 46 (.q 47 (.q 48 (.q 49 (.q 50 (.a 51 (.q 52 (.q 53 (.q 54 (.q 55 (.done))))))))))))))))))))))))))))))))))))))))))))))))))))))))) (by kernel_rfl) (by kernel_rfl) (tree_start (goesT_eq (by simp -implicitDefEqProofs (disch := (first | omega | (simp; done) | fail)) [if_pos, if_neg, wrap_i64, tmod_pos, tdiv_pos, Int.toNat_add]; rfl) ?_))
  refine zP (callable_of Try.func16) _ (w3 _) ?_
  rintro _ _ ⟨rfl, X3, rfl⟩
  refine zE ?_
  refine zP (callable_of Try.func18) _ (w4 _) ?_
  rintro _ _ ⟨⟨k4, rfl, h4⟩, X4, rfl⟩
  refine goesT_eq (by simp -implicitDefEqProofs (disch := (first | omega | (simp; done) | fail)) [if_pos, if_neg, wrap_i64, tmod_pos, tdiv_pos, Int.toNat_add, h4]; rfl) ?_
  refine zP (callable_of Try.func20) _ (w5 _) ?_
  rintro _ _ ⟨⟨k5, rfl, h5⟩, X5, rfl⟩
  refine goesT_eq (by simp -implicitDefEqProofs (disch := (first | omega | (simp; done) | fail)) [if_pos, if_neg, wrap_i64, tmod_pos, tdiv_pos, Int.toNat_add, h5]; rfl) ?_
  refine zP (callable_of Try.func20) _ (w6 _) ?_
  rintro _ _ ⟨rfl, X6, rfl⟩
  refine zE ?_
  refine goesT_done ?_
  (try simp only [vq, if_true, reduceIte, Nat.reduceEqDiff, reduceCtorEq])
  repeat (first | ((first | refine zd ?_ | refine zx ?_ | refine zk ?_ | refine zl ?_ | refine zr ?_); refine zq ?_) | refine zs ?_ | refine zg ?_ | refine zb ?_ | refine zo ?_ | refine zt ?_ | refine zf ?_)
  first | refine body_all (.inr rfl) (by simp -implicitDefEqProofs; rfl) (by simp -implicitDefEqProofs; rfl) (by first | (simp; done) | (simp; omega) | omega) ?_ | refine body_all (.inl rfl) (by simp -implicitDefEqProofs; rfl) (by simp -implicitDefEqProofs; rfl) (by first | (simp; done) | (simp; omega) | omega) ?_
  exact ⟨rfl, _, rfl⟩
end Go.Proofs.Ytajgeofhlgoifaa.G

/- Graphs: how much is looked at; what Order's answer is, in plain words. -/
set_option linter.unusedVariables false
set_option linter.unusedSimpArgs false
set_option maxRecDepth 20000
namespace Go.Proofs.Ytajgeofhlgoifaa.G
open Go Go.Proofs.Ytajgeofhlgoifaa.V Go.Proofs.Ytajgeofhlgoifaa.I Go.Sort Go.RowKit
attribute [-simp] List.length_flatten List.map_flatten
def overB (l : List Nod) (dn : List Iid) : Bool := ((l.take 15).any fun x => decide (14 < x.deps.length)) || decide (14 < l.length) || decide (14 < dn.length)
theorem over_ok (l : List Nod) (dn : List Iid) (tl td : Tok) (H : AHeap) : ACalls Try.prog 11 [.list (l.map Nod.av) tl, .list (dn.map Iid.av) td] H fun r h' => r = .bool (overB l dn) ∧ h' = H := by
  have hu := nod_uni l
  refine acalls_of_awp Try.func11 rfl (by simp only [List.length_cons, List.length_nil]; decide) ?_
  simp only [params_cons, params_nil]
  refine awp_seq ?_
  refine zg ?_
  refine goes_done ?_
  (try simp only [vq, if_true, reduceIte, Nat.reduceEqDiff, reduceCtorEq])
  refine awp_seq ?_
  refine awp_seq ?_
  refine zg ?_
  refine goes_done ?_
  (try simp only [vq, if_true, reduceIte, Nat.reduceEqDiff, reduceCtorEq])
  refine awp_block ?_
  refine awp_loop (fun z st => ∃ (i : Nat), z = l.length - i ∧ i ≤ l.length ∧ i ≤ 15 ∧ (∀ x ∈ l.take i, x.deps.length ≤ 14) ∧ st.le ⟨Try.f11.ntmps, [(0, .list (l.map Nod.av) tl), (1, .list (dn.map Iid.av) td), (5, iv (i : Nat))], H⟩) l.length ?_ ?_
  rotate_left
  rintro z st ⟨i, rfl, hi, hi15, hok, hle⟩
  · refine awp_le hle ?_
    clear hle
    by_cases h9 : i < l.length ∧ i ≤ 14
    · obtain ⟨hlt, h14⟩ := h9
      have q1 : (i : Int) < (l.length : Int) := by omega
      have q2 : (i : Int) ≤ 14 := by omega
      have hx2 : (l.map Nod.av)[i]? = some (Nod.av l[i]) := by simp [hlt]
      have htk : l.take (i + 1) = l.take i ++ [l[i]] := List.take_succ_eq_append_getElem hlt
      have hmem : l[i] ∈ l.take 15 := by
        rw [List.mem_take_iff_getElem]
        exact ⟨i, by omega, rfl⟩
      generalize l[i] = x at *
      refine awp_seq ?_
      refine awp_seq ?_
      refine zh (by simp -implicitDefEqProofs (disch := (first | omega | (simp; done) | fail)) [if_pos, if_neg, wrap_i64, tmod_pos, tdiv_pos, Int.toNat_add, q1, q2]; rfl) ?_
      refine goes_done ?_
      (try simp only [vq, if_true, reduceIte, Nat.reduceEqDiff, reduceCtorEq])
      refine awp_cond_t rfl ?_
      refine awp_skip ?_
      simp only [vq, if_true, reduceIte, Nat.reduceEqDiff, reduceCtorEq]
      refine awp_seq ?_
      refine awp_block ?_
      refine awp_seq ?_
      by_cases hd : (14 : Int) < (x.deps.length : Int)
      · have ho : overB l dn = true := by
          unfold overB
          simp only [Bool.or_eq_true]
          exact .inl (.inl (List.any_eq_true.2 ⟨x, hmem, by simp; omega⟩))
        refine zh (by simp -implicitDefEqProofs (disch := (first | omega | (simp; done) | fail)) [if_pos, if_neg, wrap_i64, tmod_pos, tdiv_pos, Int.toNat_add, hx2, hu, q1, hd, Nod.av, Nod.c]; rfl) ?_
        refine goes_done ?_
        (try simp only [vq, if_true, reduceIte, Nat.reduceEqDiff, reduceCtorEq])
        refine awp_cond_t rfl ?_
        repeat (first | ((first | refine zd ?_ | refine zx ?_ | refine zk ?_ | refine zl ?_ | refine zr ?_); refine zq ?_) | refine zs ?_ | refine zg ?_ | refine zb ?_ | refine zo ?_ | refine zt ?_ | refine zf ?_)
        first | refine zY (.inr rfl) ?_ | refine zY (.inl rfl) ?_
        simp [ho]
      · refine zh (by simp -implicitDefEqProofs (disch := (first | omega | (simp; done) | fail)) [if_pos, if_neg, wrap_i64, tmod_pos, tdiv_pos, Int.toNat_add, hx2, hu, q1, hd, Nod.av, Nod.c]; rfl) ?_
        refine goes_done ?_
        (try simp only [vq, if_true, reduceIte, Nat.reduceEqDiff, reduceCtorEq])
        refine awp_cond_f rfl ?_
        repeat (first | ((first | refine zd ?_ | refine zx ?_ | refine zk ?_ | refine zl ?_ | refine zr ?_); refine zq ?_) | refine zs ?_ | refine zg ?_ | refine zb ?_ | refine zo ?_ | refine zt ?_ | refine zf ?_)
        refine ⟨l.length - (i + 1), by omega, i + 1, rfl, hlt, by omega, fun y hy => ?_, st_keep' (by simp []) (by simp [])⟩
        rw [htk, List.mem_append, List.mem_singleton] at hy
        rcases hy with h | rfl
        · exact hok y h
        · omega
    · have hend : l.take 15 = l.take i := by
        by_cases h : i < l.length
        · have : i = 15 := by omega
          rw [this]
        · rw [List.take_of_length_le (by omega), List.take_of_length_le (by omega)]
      have hany : ((l.take 15).any fun x => decide (14 < x.deps.length)) = false := by
        rw [hend, List.any_eq_false]
        intro x hx
        have := hok x hx
        simp; omega
      have ho : overB l dn = (decide (14 < l.length) || decide (14 < dn.length)) := by unfold overB; rw [hany]; simp
      rw [ho]
      clear ho
      have key : ∀ (b : Bool), (decide ((i : Int) < (l.length : Int)) && decide ((i : Int) ≤ 14)) = b → b = false := fun b hb => by
        subst hb
        rw [← Bool.decide_and, decide_eq_false_iff_not]; omega
      refine awp_seq ?_
      refine awp_seq ?_
      by_cases h1 : (i : Int) < (l.length : Int)
      · have h2 : ¬ (i : Int) ≤ 14 := by omega
        have h3 : (14 : Int) < (l.length : Int) := by omega
        refine zh (by simp -implicitDefEqProofs (disch := (first | omega | (simp; done) | fail)) [if_pos, if_neg, wrap_i64, tmod_pos, tdiv_pos, Int.toNat_add, h1, h2]; rfl) ?_
        refine goes_done ?_
        (try simp only [vq, if_true, reduceIte, Nat.reduceEqDiff, reduceCtorEq])
        refine awp_cond_f rfl ?_
        refine awp_exit ?_
        (try simp only [vq, if_true, reduceIte, Nat.reduceEqDiff, reduceCtorEq])
        repeat (first | ((first | refine zd ?_ | refine zx ?_ | refine zk ?_ | refine zl ?_ | refine zr ?_); refine zq ?_) | refine zs ?_ | refine zh (by simp -implicitDefEqProofs (disch := (first | omega | (simp; done) | fail)) [if_pos, if_neg, wrap_i64, tmod_pos, tdiv_pos, Int.toNat_add, h3]; rfl) ?_ | refine zb ?_ | refine zo ?_ | refine zt ?_ | refine zf ?_)
        first | refine zY (.inr rfl) ?_ | refine zY (.inl rfl) ?_
        simp; omega
      · refine zh (by simp -implicitDefEqProofs (disch := (first | omega | (simp; done) | fail)) [if_pos, if_neg, wrap_i64, tmod_pos, tdiv_pos, Int.toNat_add, h1]; rfl) ?_
        refine goes_done ?_
        (try simp only [vq, if_true, reduceIte, Nat.reduceEqDiff, reduceCtorEq])
        refine awp_cond_f rfl ?_
        refine awp_exit ?_
        (try simp only [vq, if_true, reduceIte, Nat.reduceEqDiff, reduceCtorEq])
        by_cases h3 : (14 : Int) < (l.length : Int)
        · repeat (first | ((first | refine zd ?_ | refine zx ?_ | refine zk ?_ | refine zl ?_ | refine zr ?_); refine zq ?_) | refine zs ?_ | refine zh (by simp -implicitDefEqProofs (disch := (first | omega | (simp; done) | fail)) [if_pos, if_neg, wrap_i64, tmod_pos, tdiv_pos, Int.toNat_add, h3]; rfl) ?_ | refine zb ?_ | refine zo ?_ | refine zt ?_ | refine zf ?_)
          first | refine zY (.inr rfl) ?_ | refine zY (.inl rfl) ?_
          simp; omega
        · by_cases h4 : (14 : Int) < (dn.length : Int)
          · repeat (first | ((first | refine zd ?_ | refine zx ?_ | refine zk ?_ | refine zl ?_ | refine zr ?_); refine zq ?_) | refine zs ?_ | refine zh (by simp -implicitDefEqProofs (disch := (first | omega | (simp; done) | fail)) [if_pos, if_neg, wrap_i64, tmod_pos, tdiv_pos, Int.toNat_add, h3, h4]; rfl) ?_ | refine zb ?_ | refine zo ?_ | refine zt ?_ | refine zf ?_)
            first | refine zY (.inr rfl) ?_ | refine zY (.inl rfl) ?_
            simp; omega
          · repeat (first | ((first | refine zd ?_ | refine zx ?_ | refine zk ?_ | refine zl ?_ | refine zr ?_); refine zq ?_) | refine zs ?_ | refine zh (by simp -implicitDefEqProofs (disch := (first | omega | (simp; done) | fail)) [if_pos, if_neg, wrap_i64, tmod_pos, tdiv_pos, Int.toNat_add, h3, h4]; rfl) ?_ | refine zb ?_ | refine zo ?_ | refine zt ?_ | refine zf ?_)
            first | refine zY (.inr rfl) ?_ | refine zY (.inl rfl) ?_
            simp; omega
  · exact ⟨0, rfl, by omega, by omega, by simp, st_keep' (by simp []) (by simp [])⟩
structure Small (l : List Nod) (dn : List Iid) : Prop where
  len : l.length ≤ 14
  dn : dn.length ≤ 14
  dep : ∀ x ∈ l, x.deps.length ≤ 14
theorem small_of {l : List Nod} {dn : List Iid} (h : overB l dn = false) : Small l dn := by
  unfold overB at h
  simp only [Bool.or_eq_false_iff, decide_eq_false_iff_not] at h
  obtain ⟨⟨h1, h2⟩, h3⟩ := h
  refine ⟨by omega, by omega, fun x hx => ?_⟩
  rw [List.any_eq_false] at h1
  have := h1 x (by rw [List.take_of_length_le (by omega)]; exact hx)
  simp at this
  exact this
theorem Small.sum {l : List Nod} {dn : List Iid} (h : Small l dn) : sumL l [] ≤ 196 := by
  have h1 := h.len
  have h2 := h.dep
  have key : ∀ m : List Nod, (∀ x ∈ m, x.deps.length ≤ 14) → (m.map fun x => x.deps.length).sum ≤ 14 * m.length := fun m => by
    induction m with
    | nil => simp
    | cons a m ih =>
      intro hm
      have := ih fun x hx => hm x (by simp [hx])
      have := hm a (by simp)
      simp only [List.map_cons, List.sum_cons, List.length_cons]
      omega
  have := key l h2
  have e : sumL l [] = (l.map fun x => x.deps.length).sum := by
    unfold sumL
    congr 2
    exact List.filter_eq_self.2 (by simp)
  omega
theorem Small.w {l : List Nod} {dn : List Iid} (h : Small l dn) (f : Iid) : (dpOf l f).length + sumL l [] ≤ 100000 := by
  have := dp_two l f
  have := h.sum
  omega
section
variable {l : List Nod} {dn : List Iid} {out : List (List Iid)}
theorem OrdOk.perm (h : OrdOk l dn out) : ∃ gs, GsG l dn gs ∧ out.Perm gs ∧ ∀ (i : Nat) (g : List Iid), out[i]? = some g → Tar.May (dpOf l) (dn ++ (out.take i).flatten) g := by
  obtain ⟨gs, hG, ⟨grs, hL⟩, rfl⟩ := h
  have hn : gs.Nodup := hG.ord.imp fun {a b} h e => by subst e; rw [less_lt.irr] at h; cases h
  obtain ⟨h1, h2⟩ := Tar.runO_ok gs.length dn gs (Nat.le_refl _) hn hL
  exact ⟨gs, hG, h1, h2⟩
theorem OrdOk.mem (h : OrdOk l dn out) (x : Iid) : x ∈ out.flatten ↔ CanDo l dn x := by
  obtain ⟨gs, hG, hp, _⟩ := h.perm
  rw [hp.flatten.mem_iff, hG.mem]
theorem OrdOk.nd (h : OrdOk l dn out) : out.flatten.Nodup := by
  obtain ⟨gs, hG, hp, _⟩ := h.perm
  exact hp.flatten.nodup_iff.2 hG.nd
theorem OrdOk.ne (h : OrdOk l dn out) : ∀ g ∈ out, g ≠ [] := fun g hg => by
  obtain ⟨gs, hG, hp, _⟩ := h.perm
  exact (hG.grp g (hp.mem_iff.1 hg)).ne
theorem OrdOk.flen (h : OrdOk l dn out) : out.flatten.length ≤ l.length := can_len h.nd fun x hx => (h.mem x).1 hx
theorem OrdOk.len (h : OrdOk l dn out) : out.length ≤ l.length := by
  have h1 : ∀ gs : List (List Iid), (∀ g ∈ gs, g ≠ []) → gs.length ≤ gs.flatten.length := fun gs => by
    induction gs with
    | nil => simp
    | cons g gs ih =>
      intro h
      have := ih fun g hg => h g (by simp [hg])
      have := List.length_pos_iff.2 (h g (by simp))
      rw [List.flatten_cons, List.length_append, List.length_cons]; omega
  have := h1 out h.ne
  have := h.flen
  omega
end
theorem idx_ge {ks : List Iid} {x : Iid} : (0 ≤ idxI x ks) ↔ x ∈ ks := by
  unfold idxI
  by_cases h : x ∈ ks <;> simp [h]
theorem idx_lt {ks : List Iid} {x : Iid} : (idxI x ks < 0) ↔ x ∉ ks := by
  rw [← idx_ge]; omega
/-- What leads to nothing but what is done can be done. -/
theorem can_of {l : List Nod} {dn : List Iid} {x : Iid} (h1 : x ∈ l.map (·.id)) (h2 : x ∉ dn) (h3 : ∀ y ∈ dpOf l x, y ∈ dn) : CanDo l dn x := by
  refine ⟨h1, h2, fun z hz => ?_⟩
  right
  induction hz with
  | first h => exact h3 _ h
  | next _ hd _ ih => exact absurd ih hd
theorem nd_inj {β : Type} {l : List β} (hn : l.Nodup) {i j : Nat} (hi : i < l.length) (hj : j < l.length) (e : l[i] = l[j]) : i = j := by
  have h := List.pairwise_iff_getElem.1 hn
  rcases Nat.lt_trichotomy i j with h1 | h1 | h1
  · exact absurd e (h i j hi hj h1)
  · exact h1
  · exact absurd e.symm (h j i hj hi h1)
theorem dp_at {l : List Nod} (hv : validB l = true) {i : Nat} (hi : i < l.length) : dpOf l l[i].id = l[i].deps ∧ sqOf l l[i].id = l[i].seq := by
  have hnd : (l.map (·.id)).Nodup := by
    unfold validB at hv
    simp only [Bool.and_eq_true, decide_eq_true_eq] at hv
    exact hv.1
  have hf : findN l[i].id l = some l[i] := by
    unfold findN
    cases hc : l.reverse.find? fun x => decide (x.id = l[i].id) with
    | none =>
      rw [List.find?_eq_none] at hc
      have := hc l[i] (by simp)
      simp at this
    | some y =>
      have h1 := List.find?_some hc
      have h2 : y ∈ l := by simpa using List.mem_of_find?_eq_some hc
      obtain ⟨j, hj, e⟩ := List.getElem_of_mem h2
      have h3 : y.id = l[i].id := by simpa using h1
      have : j = i := nd_inj hnd (by simpa using hj) (by simpa using hi) (by simp [e, h3])
      subst this
      rw [e]
  unfold dpOf sqOf
  rw [hf]
  exact ⟨rfl, rfl⟩
end Go.Proofs.Ytajgeofhlgoifaa.G

/- Graphs: how plain data comes in. -/
set_option linter.unusedVariables false
set_option linter.unusedSimpArgs false
set_option maxRecDepth 20000
namespace Go.Proofs.Ytajgeofhlgoifaa.G
open Go Go.Proofs.Ytajgeofhlgoifaa.V Go.Proofs.Ytajgeofhlgoifaa.I Go.RowKit
def IdAt (w : World) (x : Value) : Prop := ∃ a : Iid, VRel (g0 w) (Iid.av a) x
def IdsAt (w : World) (x : Value) : Prop := ∃ l : List Iid, VRel (g0 w) (.list (l.map Iid.av) .no) x
def NodsAt (w : World) (x : Value) : Prop := ∃ l : List Nod, VRel (g0 w) (.list (l.map Nod.av) .no) x
theorem vopens_idG : VOpens Try.prog 25 Iid.c (fun a => (Lit.int .i64 a.e).wf = true ∧ (Lit.int .i64 a.n).wf = true ∧ (Lit.int .i64 a.o).wf = true) :=
  vopens_map (fun p : Int × Int × Int × Unit => Iid.mk p.1 p.2.1 p.2.2.1)
    (vopens_struct Try.underlying25 (by kernel_rfl) (fopens_cons (k := 1) rfl (by kernel_rfl) (vopens_int Try.underlying3) (fopens_cons (k := 1) rfl (by kernel_rfl) (vopens_int Try.underlying3) (fopens_cons (k := 1) rfl (by kernel_rfl) (vopens_int Try.underlying3) fopens_nil))))
    (fun _ => rfl) (fun _ h => ⟨h.1, h.2.1, h.2.2.1⟩)
theorem vopens_idsG : VOpens Try.prog 23 (fun l : List Iid => [.list (l.map Iid.av) .no]) (fun _ => True) :=
  vopens_map (fun l : List Iid => l) (vopens_sl (sz := 3) Try.underlying23 (by kernel_rfl) (by decide) vopens_idG Iid.av (fun _ => rfl) (fun _ => rfl)) (fun _ => rfl) (fun _ _ => trivial)
theorem vopens_attrG : VOpens Try.prog 43 (fun p : Int × List Iid => [iv p.1, .list (p.2.map Iid.av) .no]) (fun _ => True) :=
  vopens_map (fun p : Int × List Iid × Unit => (p.1, p.2.1))
    (vopens_struct Try.underlying43 (by kernel_rfl) (fopens_cons (k := 1) rfl (by kernel_rfl) (vopens_int Try.underlying3) (fopens_cons (k := 1) rfl (by kernel_rfl) vopens_idsG fopens_nil)))
    (fun _ => rfl) (fun _ h => trivial)
theorem vopens_nodG : VOpens Try.prog 45 Nod.c (fun _ => True) :=
  vopens_map (fun p : Iid × (Int × List Iid) × Unit => Nod.mk p.1 p.2.1.1 p.2.1.2)
    (vopens_struct Try.underlying45 (by kernel_rfl) (fopens_cons (k := 3) rfl (by kernel_rfl) vopens_idG (fopens_cons (k := 2) rfl (by kernel_rfl) vopens_attrG fopens_nil)))
    (fun _ => rfl) (fun _ h => trivial)
theorem open_api_ID {H : Type} {enc : TypeId × Value → H} {w : World} {v : Value} {d : DataW H} {p : List MemPlace} {r : Reach} {b0 : Nat} (hv : Value.okWide Try.prog w r b0 25 v) (h : DataW.Trod enc Try.prog w 0 (fun _ => true) true 25 v d p) (hnf : w.noneFrozen p) : ∃ x : Came, v = x.v ∧ IdAt w x.v :=
  ⟨⟨v⟩, rfl, by
    obtain ⟨a, hg, hr⟩ := vopen_st Try.underlying25 vopens_idG hv h hnf
    exact ⟨a, hr⟩⟩
theorem open_Sl_api_ID {H : Type} {enc : TypeId × Value → H} {w : World} {v : Value} {d : DataW H} {p : List MemPlace} {r : Reach} {b0 : Nat} (hv : Value.okWide Try.prog w r b0 23 v) (h : DataW.Trod enc Try.prog w 0 (fun _ => true) true 23 v d p) (hnf : w.noneFrozen p) : ∃ x : Came, v = x.v ∧ IdsAt w x.v :=
  ⟨⟨v⟩, rfl, by
    obtain ⟨l, hg, hr⟩ := vopen_sl Try.underlying23 vopens_idsG hv h hnf
    exact ⟨l, hr⟩⟩
theorem open_Sl_graph_Node {H : Type} {enc : TypeId × Value → H} {w : World} {v : Value} {d : DataW H} {p : List MemPlace} {r : Reach} {b0 : Nat} (hv : Value.okWide Try.prog w r b0 22 v) (h : DataW.Trod enc Try.prog w 0 (fun _ => true) true 22 v d p) (hnf : w.noneFrozen p) : ∃ x : Came, v = x.v ∧ NodsAt w x.v :=
  ⟨⟨v⟩, rfl, by
    obtain ⟨l, hg, hr⟩ := vopen_sl Try.underlying22 (vopens_sl (sz := 5) Try.underlying22 (by kernel_rfl) (by decide) vopens_nodG Nod.av (fun _ => rfl) (fun _ => rfl)) hv h hnf
    exact ⟨l, hr⟩⟩
end Go.Proofs.Ytajgeofhlgoifaa.G
