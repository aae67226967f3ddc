import Derived.Test.YtajgeofhlgoifaaGL
import Derived.Test.YtajgeofhlgoifaaGF
import Derived.Test.YtajgeofhlgoifaaV32
/- Graphs: what can be done is done the same, whatever else there is, in plain words. -/
set_option linter.unusedVariables false
set_option linter.unusedSimpArgs false
set_option maxRecDepth 20000
namespace Go.Proofs.Ytajgeofhlgoifaa.G
open Go Go.Proofs.Ytajgeofhlgoifaa.V Go.Proofs.Ytajgeofhlgoifaa.I Go.Sort Go.RowKit
attribute [-simp] List.length_flatten List.map_flatten
/-- Each leads to the other one. -/
def Mut (l : List Nod) (x y : Iid) : Prop := Lead (dpOf l) [] x y ∧ Lead (dpOf l) [] y x
/-- One is ahead of another one. -/
def Bef (l : List Nod) (x y : Iid) : Prop := x ≠ y ∧ (Mut l x y → keyC l x y = true) ∧ (¬ Mut l x y → y ∉ dpOf l x)
theorem OrdOk.bef {l : List Nod} {out : List (List Iid)} (h : OrdOk l [] out) : out.flatten.Pairwise (Bef l) := by
  have hnd := h.nd
  obtain ⟨gs, hG, hp, hmay⟩ := h.perm
  rw [List.pairwise_flatten]
  refine ⟨fun g hg => ?_, ?_⟩
  · obtain ⟨I, S⟩ := h.grp g hg
    have hgn := flat_nd hnd g hg
    refine (S.and hgn).imp_of_mem ?_
    rintro a b ha hb ⟨h1, h2⟩
    refine ⟨h2, fun _ => h1, fun hm => ?_⟩
    exfalso
    refine hm ⟨?_, ?_⟩
    · exact (rt_lead (I.each a ha b hb)).resolve_left h2
    · exact (rt_lead (I.each b hb a ha)).resolve_left (Ne.symm h2)
  · rw [List.pairwise_iff_getElem]
    intro i j hi hj hij x hx y hy
    have hne : x ≠ y := fun e => by
      subst e
      have := flat_inj hnd i j hi hj hx hy
      omega
    have hnm : ¬ Mut l x y := fun hm => by
      have := (both_iff h hi hj hx hy).1 (.inr hm)
      omega
    refine ⟨hne, fun hm => absurd hm hnm, fun _ hd => ?_⟩
    rcases hmay i out[i] (List.getElem?_eq_getElem hi) x hx y hd with h1 | h1
    · rw [List.nil_append] at h1
      obtain ⟨g, hg, hyg⟩ := List.mem_flatten.1 h1
      obtain ⟨m, hm, e⟩ := List.getElem_of_mem hg
      have hm1 : m < i := by rw [List.length_take] at hm; omega
      have hm2 : m < out.length := by omega
      have e2 : out[m] = g := by rw [← e, List.getElem_take]
      have := flat_inj hnd m j hm2 hj (by rw [e2]; exact hyg) hy
      omega
    · have := flat_inj hnd i j hi hj h1 hy
      omega
theorem idx_pw {β : Type} [DecidableEq β] {R : β → β → Prop} {l : List β} (hp : l.Pairwise R) {x y : β} (hx : x ∈ l) (hy : y ∈ l) (h : l.idxOf x < l.idxOf y) : R x y := by
  have h1 := List.idxOf_lt_length_of_mem hx
  have h2 := List.idxOf_lt_length_of_mem hy
  have := List.pairwise_iff_getElem.1 hp _ _ h1 h2 h
  rwa [List.getElem_idxOf h1, List.getElem_idxOf h2] at this
/-- Of two of which one depends on the other one. -/
theorem pos_dep {l : List Nod} {out : List (List Iid)} (h : OrdOk l [] out) {a b : Iid} (ha : a ∈ out.flatten) (hb : b ∈ out.flatten) (hab : a ≠ b) (hd : b ∈ dpOf l a) : out.flatten.idxOf a < out.flatten.idxOf b ↔ Mut l a b ∧ keyC l a b = true := by
  have hp := h.bef
  constructor
  · intro hlt
    obtain ⟨_, h1, h2⟩ := idx_pw hp ha hb hlt
    by_cases hm : Mut l a b
    · exact ⟨hm, h1 hm⟩
    · exact absurd hd (h2 hm)
  · rintro ⟨hm, hk⟩
    rcases Nat.lt_trichotomy (out.flatten.idxOf a) (out.flatten.idxOf b) with h1 | h1 | h1
    · exact h1
    · exact absurd (Tar.idx_inj ha h1) hab
    · obtain ⟨_, h2, _⟩ := idx_pw hp hb ha h1
      have := h2 ⟨hm.2, hm.1⟩
      rw [(keyC_ok l).asy a b hk] at this
      cases this
section
variable {l more : List Nod}
theorem more_valid (hv : validB (l ++ more) = true) : validB l = true ∧ ∀ k ∈ l.map (·.id), dpOf (l ++ more) k = dpOf l k ∧ sqOf (l ++ more) k = sqOf l k := by
  have hv' := hv
  unfold validB at hv
  simp only [Bool.and_eq_true, decide_eq_true_eq, List.map_append, List.length_append] at hv
  obtain ⟨h1, h2⟩ := hv
  rw [List.nodup_append] at h1
  have hv2 : validB l = true := by
    unfold validB
    simp only [Bool.and_eq_true, decide_eq_true_eq]
    exact ⟨h1.1, by omega⟩
  refine ⟨hv2, fun k hk => ?_⟩
  obtain ⟨x, hx, rfl⟩ := List.mem_map.1 hk
  obtain ⟨i, hi, rfl⟩ := List.getElem_of_mem hx
  have d1 := dp_at hv2 hi
  have d2 := dp_at hv' (i := i) (by rw [List.length_append]; omega)
  have e : (l ++ more)[i]'(by rw [List.length_append]; omega) = l[i] := List.getElem_append_left hi
  rw [e] at d2
  exact ⟨d2.1.trans d1.1.symm, d2.2.trans d1.2.symm⟩
/-- Among those that can be done nothing else counts. -/
theorem more_lead (hv : validB (l ++ more) = true) {a : Iid} (hc : CanDo l [] a) (z : Iid) : Lead (dpOf (l ++ more)) [] a z ↔ Lead (dpOf l) [] a z := by
  have hd := (more_valid hv).2
  have hids : ∀ y, Lead (dpOf l) [] a y → y ∈ l.map (·.id) := fun y hy => (hc.2.2 y hy).resolve_right (by simp)
  constructor
  · intro h
    induction h with
    | first h => rw [(hd a hc.1).1] at h; exact .first h
    | next _ _ h ih => rw [(hd _ (hids _ ih)).1] at h; exact .next ih (by simp) h
  · intro h
    induction h with
    | first h => exact .first (by rw [(hd a hc.1).1]; exact h)
    | next h0 _ h ih => exact .next ih (by simp) (by rw [(hd _ (hids _ h0)).1]; exact h)
theorem more_can (hv : validB (l ++ more) = true) {a : Iid} (hc : CanDo l [] a) : CanDo (l ++ more) [] a :=
  ⟨by rw [List.map_append]; exact List.mem_append.2 (.inl hc.1), by simp, fun z hz => .inl (by
    rw [List.map_append]
    exact List.mem_append.2 (.inl ((hc.2.2 z ((more_lead hv hc z).1 hz)).resolve_right (by simp))))⟩
theorem more_mut (hv : validB (l ++ more) = true) {a b : Iid} (ha : CanDo l [] a) (hb : CanDo l [] b) : (Mut (l ++ more) a b ∧ keyC (l ++ more) a b = true) ↔ (Mut l a b ∧ keyC l a b = true) := by
  have hd := (more_valid hv).2
  unfold Mut keyC
  rw [more_lead hv ha, more_lead hv hb, (hd a ha.1).2, (hd b hb.1).2]
theorem more_plain (hv : validB (l ++ more) = true) {o p : List (List Iid)} (ho : OrdOk l [] o) (hp : OrdOk (l ++ more) [] p) {a b : Iid} (hl : (a ∈ l.map (·.id) ∧ b ∈ dpOf l a) ∨ (b ∈ l.map (·.id) ∧ a ∈ dpOf l b)) (ha : a ∈ o.flatten) (hb : b ∈ o.flatten) :
    a ∈ p.flatten ∧ b ∈ p.flatten ∧ (o.flatten.idxOf a < o.flatten.idxOf b ↔ p.flatten.idxOf a < p.flatten.idxOf b) := by
  have ca := (ho.mem a).1 ha
  have cb := (ho.mem b).1 hb
  have pa := (hp.mem a).2 (more_can hv ca)
  have pb := (hp.mem b).2 (more_can hv cb)
  refine ⟨pa, pb, ?_⟩
  by_cases hab : a = b
  · subst hab; simp
  have hd := (more_valid hv).2
  rcases hl with ⟨_, h1⟩ | ⟨_, h1⟩
  · rw [pos_dep ho ha hb hab h1, pos_dep hp pa pb hab (by rw [(hd a ca.1).1]; exact h1), more_mut hv ca cb]
  · have e1 := pos_dep ho hb ha (Ne.symm hab) h1
    have e2 := pos_dep hp pb pa (Ne.symm hab) (by rw [(hd b cb.1).1]; exact h1)
    rw [more_mut hv cb ca] at e2
    have n1 : o.flatten.idxOf a ≠ o.flatten.idxOf b := fun e => hab (Tar.idx_inj ha e)
    have n2 : p.flatten.idxOf a ≠ p.flatten.idxOf b := fun e => hab (Tar.idx_inj pa e)
    have e3 : o.flatten.idxOf b < o.flatten.idxOf a ↔ p.flatten.idxOf b < p.flatten.idxOf a := e1.trans e2.symm
    omega
end
end Go.Proofs.Ytajgeofhlgoifaa.G

/- Graphs: what can be done is done the same, whatever else there is. -/
set_option linter.unusedVariables false
set_option linter.unusedSimpArgs false
set_option maxRecDepth 20000
set_option maxHeartbeats 1000000
namespace Go.Proofs.Ytajgeofhlgoifaa.G
open Go Go.Proofs.Ytajgeofhlgoifaa.V Go.Proofs.Ytajgeofhlgoifaa.I Go.Sort Go.RowKit
attribute [-simp] List.length_flatten List.map_flatten
theorem nod_onesL (l : List Nod) : onesL (l.map Nod.av) = true := by
  induction l with
  | nil => rfl
  | cons a l ih => simp [onesL, ih, Nod.av, Nod.c]
theorem more_law (m1 m2 : List Nod) (a b : Iid) (hm1 : m1.length ≤ 1048576) (hm2 : m2.length ≤ 1048576) (h : AHeap) : ACalls Try.prog 4 [.list (m1.map Nod.av) .no, .list (m2.map Nod.av) .no, Iid.av a, Iid.av b] h fun r h' => r = .bool true ∧ h' = h := by
  have hu1 := nod_uni m1
  have hu2 := nod_uni m2
  have ho1 := nod_onesL m1
  have ho2 := nod_onesL m2
  have b0 : m1.length * 40 ≤ 140737488355328 ∧ m1.length ≤ 140737488355328 ∧ (m1.length + m2.length) * 40 ≤ 140737488355328 ∧ m1.length + m2.length ≤ 140737488355328 := by omega
  obtain ⟨b1, b2, b3, b4⟩ := b0
  show ACalls _ _ [.list (m1.map Nod.av) .no, .list (m2.map Nod.av) .no, .agg [iv a.e, iv a.n, iv a.o], .agg [iv b.e, iv b.n, iv b.o]] _ _
  refine acalls_of_awp Try.func4 rfl (by simp only [List.length_cons, List.length_nil]; decide) ?_
  simp only [params_cons, params_nil]
  refine awp_seq ?_
  refine zg ?_
  refine goes_done ?_
  (try simp only [vq, if_true, reduceIte, Nat.reduceEqDiff, reduceCtorEq])
  refine awp_hard (id := h.length) (by simp -implicitDefEqProofs; rfl) ?_
  simp -implicitDefEqProofs only [Slots.melt, AV.melt, Nat.add_left_cancel_iff, Nat.add_eq_left, Nat.left_eq_add, Nat.reduceEqDiff, reduceIte, Nat.succ_ne_self, Nat.one_ne_zero, Nat.zero_ne_one, List.set_append_right, List.set_append_left, Nat.sub_self, Nat.le_refl, Nat.add_sub_cancel_left, Nat.le_add_right, List.set_cons_zero, List.set_cons_succ]
  refine awp_hard (id := h.length + 1) (by simp -implicitDefEqProofs; rfl) ?_
  simp -implicitDefEqProofs only [Slots.melt, AV.melt, Nat.add_left_cancel_iff, Nat.add_eq_left, Nat.left_eq_add, Nat.reduceEqDiff, reduceIte, Nat.succ_ne_self, Nat.one_ne_zero, Nat.zero_ne_one, List.set_append_right, List.set_append_left, Nat.sub_self, Nat.le_refl, Nat.add_sub_cancel_left, Nat.le_add_right, List.set_cons_zero, List.set_cons_succ]
  refine awp_seq ?_
  repeat (first | ((first | refine zd ?_ | refine zx ?_ | refine zk ?_ | refine zl ?_ | refine zr ?_); refine zq ?_) | refine zs ?_ | refine zg ?_ | refine zb ?_ | refine zo ?_ | refine zt ?_ | refine zf ?_)
  refine zp (callable_of Try.func10) _ (works_ok _) ?_
  rintro _ _ ⟨rfl, XW, rfl⟩
  refine ze ?_
  refine goes_done ?_
  (try simp only [vq, if_true, reduceIte, Nat.reduceEqDiff, reduceCtorEq])
  repeat (first | ((first | refine zd ?_ | refine zx ?_ | refine zk ?_ | refine zl ?_ | refine zr ?_); refine zq ?_) | refine zs ?_ | refine zh (by simp -implicitDefEqProofs (disch := (first | omega | (simp; done) | fail)) [if_pos, if_neg, wrap_i64, tmod_pos, tdiv_pos, Int.toNat_add, hu1, ho1, b1, b2, hu2, ho2, b3, b4]; rfl) ?_ | refine zb ?_ | refine zo ?_ | refine zt ?_ | refine zf ?_)
  rw [← List.map_append]
  obtain ⟨l, hl⟩ : ∃ l, l = m1 ++ m2 := ⟨_, rfl⟩
  rw [← hl]
  have hu := nod_uni l
  have hov : ∀ h, ACalls Try.prog 11 [.list (l.map Nod.av) .no, .list [] .no] h fun r h' => r = .bool (overB l []) ∧ h' = h := fun h => over_ok l [] .no .no h
  refine zp (callable_of Try.func11) _ (hov _) ?_
  rintro _ _ ⟨rfl, rfl⟩
  rcases Bool.eq_false_or_eq_true (overB l []) with ho | ho
  · rw [ho]
    refine ze ?_
    repeat (first | ((first | refine zd ?_ | refine zx ?_ | refine zk ?_ | refine zl ?_ | refine zr ?_); refine zq ?_) | refine zs ?_ | refine zg ?_ | refine zb ?_ | refine zo ?_ | refine zt ?_ | refine zf ?_)
    first | refine zy (.inr rfl) ?_ | refine zy (.inl rfl) ?_
    simp
  rw [ho]
  have hs := small_of ho
  have h14 := hs.len
  have hva := fun h => valid_ok l .no (by omega) h
  have hd14 := hs.dn
  refine ze ?_
  refine zp (callable_of Try.func16) _ (hva _) ?_
  rintro _ _ ⟨rfl, XV, rfl⟩
  rcases Bool.eq_false_or_eq_true (validB l) with hv | hv
  rotate_left
  · rw [hv]
    refine ze ?_
    repeat (first | ((first | refine zd ?_ | refine zx ?_ | refine zk ?_ | refine zl ?_ | refine zr ?_); refine zq ?_) | refine zs ?_ | refine zg ?_ | refine zb ?_ | refine zo ?_ | refine zt ?_ | refine zf ?_)
    first | refine zy (.inr rfl) ?_ | refine zy (.inl rfl) ?_
    simp
  rw [hv]
  have hv' := hv
  rw [hl] at hv'
  obtain ⟨hv1, hdq⟩ := more_valid hv'
  have hs1 : Small m1 [] := ⟨by have := hs.len; rw [hl, List.length_append] at this; omega, by simp, fun x hx => hs.dep x (by rw [hl]; simp [hx])⟩
  have hm14 := hs1.len
  have hor : ∀ H, ACalls Try.prog 13 [.list (l.map Nod.av) .no, .list [] .no] H fun r h' => ∃ (out : List (List Iid)) (X : AHeap), r = .list (out.map lv) .no ∧ h' = H ++ X ∧ OrdOk l [] out := fun H => order_sm hs hv [] (by simp) H
  have hor1 : ∀ H, ACalls Try.prog 13 [.list (m1.map Nod.av) .no, .list [] .no] H fun r h' => ∃ (out : List (List Iid)) (X : AHeap), r = .list (out.map lv) .no ∧ h' = H ++ X ∧ OrdOk m1 [] out := fun H => order_sm hs1 hv1 [] (by simp) H
  refine ze ?_
  repeat (first | ((first | refine zd ?_ | refine zx ?_ | refine zk ?_ | refine zl ?_ | refine zr ?_); refine zq ?_) | refine zs ?_ | refine zg ?_ | refine zb ?_ | refine zo ?_ | refine zt ?_ | refine zf ?_)
  refine zp (callable_of Try.func13) _ (hor1 _) ?_
  rintro _ _ ⟨o, X1, rfl, rfl, hO⟩
  have hol := hO.len
  have hof := hO.flen
  have hfl1 := fun H => flatG_ok o .no (by omega) hO.ne (by omega) H
  refine ze ?_
  refine zp (callable_of Try.func22) _ (hfl1 _) ?_
  rintro _ _ ⟨rfl, X2, rfl⟩
  refine goes_eq (by simp -implicitDefEqProofs (disch := (first | omega | (simp; done) | fail)) [if_pos, if_neg, wrap_i64, tmod_pos, tdiv_pos, Int.toNat_add, lv]; rfl) ?_
  refine goes_done ?_
  (try simp only [vq, if_true, reduceIte, Nat.reduceEqDiff, reduceCtorEq])
  refine awp_seq ?_
  repeat (first | ((first | refine zd ?_ | refine zx ?_ | refine zk ?_ | refine zl ?_ | refine zr ?_); refine zq ?_) | refine zs ?_ | refine zg ?_ | refine zb ?_ | refine zo ?_ | refine zt ?_ | refine zf ?_)
  refine zp (callable_of Try.func13) _ (hor _) ?_
  rintro _ _ ⟨p, X3, rfl, rfl, hP⟩
  have hpl := hP.len
  have hpf := hP.flen
  have hfl2 := fun H => flatG_ok p .no (by omega) hP.ne (by omega) H
  refine ze ?_
  refine zp (callable_of Try.func22) _ (hfl2 _) ?_
  rintro _ _ ⟨rfl, X4, rfl⟩
  refine goes_eq (by simp -implicitDefEqProofs (disch := (first | omega | (simp; done) | fail)) [if_pos, if_neg, wrap_i64, tmod_pos, tdiv_pos, Int.toNat_add, lv]; rfl) ?_
  refine goes_done ?_
  (try simp only [vq, if_true, reduceIte, Nat.reduceEqDiff, reduceCtorEq])
  have hplain := fun h1 h2 h3 => more_plain (l := m1) (more := m2) hv' hO (hl ▸ hP) (a := a) (b := b) h1 h2 h3
  generalize o.flatten = F at *
  generalize p.flatten = G at *
  generalize hX0 : AObj.dead :: AObj.dead :: (XW ++ AObj.dead :: AObj.tail 45 5 :: (XV ++ (X1 ++ (X2 ++ (X3 ++ X4))))) = X0
  clear hX0
  refine awp_seq ?_
  refine zg ?_
  refine goes_done ?_
  (try simp only [vq, if_true, reduceIte, Nat.reduceEqDiff, reduceCtorEq])
  refine awp_seq ?_
  refine AWP.mono (Q := fun e st => e = .normal ∧ ∃ lk : Bool, (lk = true ↔ ∃ nd ∈ m1, (nd.id = a ∧ b ∈ nd.deps) ∨ (nd.id = b ∧ a ∈ nd.deps)) ∧ st.le ⟨Try.f4.ntmps, [(0, .list (m1.map Nod.av) .no), (6, .ref [iv a.e, iv a.n, iv a.o] 0), (7, .ref [iv b.e, iv b.n, iv b.o] 0), (9, .bool true), (11, .list (F.map Iid.av) .no), (12, .list (G.map Iid.av) .no), (13, .bool lk)], h ++ X0⟩) ?_ ?_
  · refine awp_seq ?_
    refine zg ?_
    refine goes_done ?_
    (try simp only [vq, if_true, reduceIte, Nat.reduceEqDiff, reduceCtorEq])
    refine awp_block ?_
    refine awp_loop (fun z st => ∃ (i : Nat) (lk : Bool), z = m1.length - i ∧ i ≤ m1.length ∧ (lk = true ↔ ∃ nd ∈ m1.take i, (nd.id = a ∧ b ∈ nd.deps) ∨ (nd.id = b ∧ a ∈ nd.deps)) ∧ st.le ⟨Try.f4.ntmps, [(0, .list (m1.map Nod.av) .no), (6, .ref [iv a.e, iv a.n, iv a.o] 0), (7, .ref [iv b.e, iv b.n, iv b.o] 0), (9, .bool true), (11, .list (F.map Iid.av) .no), (12, .list (G.map Iid.av) .no), (13, .bool lk), (14, iv (i : Nat))], h ++ X0⟩) m1.length ?_ ?_
    rotate_left
    rintro z st ⟨i, lk, rfl, hi, hlk, hle⟩
    · refine awp_le hle ?_
      clear hle
      by_cases h9 : i = m1.length
      · subst h9
        have q : ¬ (m1.length : Int) < (m1.length : Int) := by omega
        rw [List.take_length] at hlk
        refine awp_seq ?_
        refine awp_seq ?_
        refine zh (by simp -implicitDefEqProofs (disch := (first | omega | (simp; done) | fail)) [if_pos, if_neg, wrap_i64, tmod_pos, tdiv_pos, Int.toNat_add, q]; rfl) ?_
        refine goes_done ?_
        (try simp only [vq, if_true, reduceIte, Nat.reduceEqDiff, reduceCtorEq])
        refine awp_cond_f rfl ?_
        refine awp_exit ?_
        (try simp only [vq, if_true, reduceIte, Nat.reduceEqDiff, reduceCtorEq])
        exact ⟨trivial, lk, hlk, st_keep' (by simp []) (by simp [])⟩
      · have hlt : i < m1.length := by omega
        have q : (i : Int) < (m1.length : Int) := by omega
        have hz2 : (m1.map Nod.av)[i]? = some (Nod.av m1[i]) := by simp [hlt]
        have htk : m1.take (i + 1) = m1.take i ++ [m1[i]] := List.take_succ_eq_append_getElem hlt
        have hxd : m1[i].deps.length ≤ 14 := hs1.dep _ (List.getElem_mem hlt)
        generalize m1[i] = nd at *
        have hstep : ∀ lk' : Bool, (lk' = true ↔ lk = true ∨ ((nd.id = a ∧ b ∈ nd.deps) ∨ (nd.id = b ∧ a ∈ nd.deps))) → (lk' = true ↔ ∃ nd ∈ m1.take (i + 1), (nd.id = a ∧ b ∈ nd.deps) ∨ (nd.id = b ∧ a ∈ nd.deps)) := fun lk' he => by
          rw [he, hlk, htk]
          constructor
          · rintro (⟨y, hy, h1⟩ | h1)
            · exact ⟨y, List.mem_append.2 (.inl hy), h1⟩
            · exact ⟨nd, by simp, h1⟩
          · rintro ⟨y, hy, h1⟩
            rcases List.mem_append.1 hy with h2 | h2
            · exact .inl ⟨y, h2, h1⟩
            · simp at h2; subst h2; exact .inr h1
        have hq1 := eqb0 nd.id a
        have hq2 := eqb0 nd.id b
        have hat1 : ∀ H, ACalls Try.prog 24 [.list (nd.deps.map Iid.av) .no, .agg [iv b.e, iv b.n, iv b.o]] H fun r h' => r = iv (idxI b nd.deps) ∧ h' = H := fun H => at_ok nd.deps b .no (by omega) H
        have hat2 : ∀ H, ACalls Try.prog 24 [.list (nd.deps.map Iid.av) .no, .agg [iv a.e, iv a.n, iv a.o]] H fun r h' => r = iv (idxI a nd.deps) ∧ h' = H := fun H => at_ok nd.deps a .no (by omega) H
        refine awp_seq ?_
        refine awp_seq ?_
        refine zh (by simp -implicitDefEqProofs (disch := (first | omega | (simp; done) | fail)) [if_pos, if_neg, wrap_i64, tmod_pos, tdiv_pos, Int.toNat_add, q]; rfl) ?_
        refine goes_done ?_
        (try simp only [vq, if_true, reduceIte, Nat.reduceEqDiff, reduceCtorEq])
        refine awp_cond_t rfl ?_
        refine awp_skip ?_
        simp only [vq, if_true, reduceIte, Nat.reduceEqDiff, reduceCtorEq]
        refine awp_seq ?_
        refine awp_block ?_
        cases lk with
        | true =>
          refine awp_draw (.q 0 (.q 1 (.q 2 (.q 3 (.q 4 (.q 5 (.q 6 (.q 7 (.q 8 (.q 9 (.q 10 (.q 11 (.q 12 (.q 13 (.q 14 (.q 15 (.q 16 (.a 17 (.q 18 (.q 19 (.q 20 (.q 21 (.q 22 (.q 23 (.q 24 (.q 25 (.q 26 (.q 27 (.q 28 (.q 29 (.q 30 (.q 31 (.q 32 (.q 33 (.q 34 (.q 35 (.q 36 (.a 37 (.q 38 (.q 39 (.q 40 (.q 41 (.done))))))))))))))))))))))))))))))))))))))))))) (by kernel_rfl) (by kernel_rfl) (tree_start (goesT_eq (by simp -implicitDefEqProofs (disch := (first | omega | (simp; done) | fail)) [if_pos, if_neg, wrap_i64, tmod_pos, tdiv_pos, Int.toNat_add]; rfl) ?_))
          refine goesT_done ?_
          (try simp only [vq, if_true, reduceIte, Nat.reduceEqDiff, reduceCtorEq])
          repeat (first | ((first | refine zd ?_ | refine zx ?_ | refine zk ?_ | refine zl ?_ | refine zr ?_); refine zq ?_) | refine zs ?_ | refine zg ?_ | refine zb ?_ | refine zo ?_ | refine zt ?_ | refine zf ?_)
          exact ⟨m1.length - (i + 1), by omega, i + 1, true, rfl, hlt, hstep true (by simp), st_keep' (by simp []) (by simp [])⟩
        | false =>
          by_cases c1 : nd.id = a
          · rw [decide_eq_true c1] at hq1
            by_cases d1 : b ∈ nd.deps
            · have f1 : 0 ≤ idxI b nd.deps := idx_ge.2 d1
              refine awp_draw (.q 0 (.q 1 (.q 2 (.q 3 (.q 4 (.q 5 (.q 6 (.q 7 (.q 8 (.q 9 (.q 10 (.q 11 (.q 12 (.q 13 (.q 14 (.q 15 (.q 16 (.a 17 (.q 18 (.q 19 (.q 20 (.q 21 (.q 22 (.q 23 (.q 24 (.q 25 (.q 26 (.q 27 (.q 28 (.q 29 (.q 30 (.q 31 (.q 32 (.q 33 (.q 34 (.q 35 (.q 36 (.a 37 (.q 38 (.q 39 (.q 40 (.q 41 (.done))))))))))))))))))))))))))))))))))))))))))) (by kernel_rfl) (by kernel_rfl) (tree_start (goesT_eq (by simp -implicitDefEqProofs (disch := (first | omega | (simp; done) | fail)) [if_pos, if_neg, wrap_i64, tmod_pos, tdiv_pos, Int.toNat_add, hq1, hz2, hu1, q, Nod.av, Nod.c]; rfl) ?_))
              refine zP (callable_of Try.func24) _ (hat1 _) ?_
              rintro _ _ ⟨rfl, rfl⟩
              refine goesT_eq (by simp -implicitDefEqProofs (disch := (first | omega | (simp; done) | fail)) [if_pos, if_neg, wrap_i64, tmod_pos, tdiv_pos, Int.toNat_add, f1]; rfl) ?_
              refine goesT_done ?_
              (try simp only [vq, if_true, reduceIte, Nat.reduceEqDiff, reduceCtorEq])
              repeat (first | ((first | refine zd ?_ | refine zx ?_ | refine zk ?_ | refine zl ?_ | refine zr ?_); refine zq ?_) | refine zs ?_ | refine zg ?_ | refine zb ?_ | refine zo ?_ | refine zt ?_ | refine zf ?_)
              exact ⟨m1.length - (i + 1), by omega, i + 1, true, rfl, hlt, hstep true (by simp [c1, d1]), st_keep' (by simp []) (by simp [])⟩
            · have f1 : ¬ 0 ≤ idxI b nd.deps := by rw [idx_ge]; exact d1
              by_cases c2 : nd.id = b
              · rw [decide_eq_true c2] at hq2
                refine awp_draw (.q 0 (.q 1 (.q 2 (.q 3 (.q 4 (.q 5 (.q 6 (.q 7 (.q 8 (.q 9 (.q 10 (.q 11 (.q 12 (.q 13 (.q 14 (.q 15 (.q 16 (.a 17 (.q 18 (.q 19 (.q 20 (.q 21 (.q 22 (.q 23 (.q 24 (.q 25 (.q 26 (.q 27 (.q 28 (.q 29 (.q 30 (.q 31 (.q 32 (.q 33 (.q 34 (.q 35 (.q 36 (.a 37 (.q 38 (.q 39 (.q 40 (.q 41 (.done))))))))))))))))))))))))))))))))))))))))))) (by kernel_rfl) (by kernel_rfl) (tree_start (goesT_eq (by simp -implicitDefEqProofs (disch := (first | omega | (simp; done) | fail)) [if_pos, if_neg, wrap_i64, tmod_pos, tdiv_pos, Int.toNat_add, hq1, hz2, hu1, q, Nod.av, Nod.c]; rfl) ?_))
                refine zP (callable_of Try.func24) _ (hat1 _) ?_
                rintro _ _ ⟨rfl, rfl⟩
                refine goesT_eq (by simp -implicitDefEqProofs (disch := (first | omega | (simp; done) | fail)) [if_pos, if_neg, wrap_i64, tmod_pos, tdiv_pos, Int.toNat_add, f1, hq2, hz2, hu1, q, Nod.av, Nod.c]; rfl) ?_
                refine zP (callable_of Try.func24) _ (hat2 _) ?_
                rintro _ _ ⟨rfl, rfl⟩
                refine zE ?_
                refine goesT_done ?_
                (try simp only [vq, if_true, reduceIte, Nat.reduceEqDiff, reduceCtorEq])
                repeat (first | ((first | refine zd ?_ | refine zx ?_ | refine zk ?_ | refine zl ?_ | refine zr ?_); refine zq ?_) | refine zs ?_ | refine zg ?_ | refine zb ?_ | refine zo ?_ | refine zt ?_ | refine zf ?_)
                exact ⟨m1.length - (i + 1), by omega, i + 1, decide (0 ≤ idxI a nd.deps), rfl, hlt, hstep _ (by rw [decide_eq_true_eq, idx_ge]; simp [d1, c2]), st_keep' (by simp []) (by simp [])⟩
              · rw [decide_eq_false c2] at hq2
                refine awp_draw (.q 0 (.q 1 (.q 2 (.q 3 (.q 4 (.q 5 (.q 6 (.q 7 (.q 8 (.q 9 (.q 10 (.q 11 (.q 12 (.q 13 (.q 14 (.q 15 (.q 16 (.a 17 (.q 18 (.q 19 (.q 20 (.q 21 (.q 22 (.q 23 (.q 24 (.q 25 (.q 26 (.q 27 (.q 28 (.q 29 (.q 30 (.q 31 (.q 32 (.q 33 (.q 34 (.q 35 (.q 36 (.a 37 (.q 38 (.q 39 (.q 40 (.q 41 (.done))))))))))))))))))))))))))))))))))))))))))) (by kernel_rfl) (by kernel_rfl) (tree_start (goesT_eq (by simp -implicitDefEqProofs (disch := (first | omega | (simp; done) | fail)) [if_pos, if_neg, wrap_i64, tmod_pos, tdiv_pos, Int.toNat_add, hq1, hz2, hu1, q, Nod.av, Nod.c]; rfl) ?_))
                refine zP (callable_of Try.func24) _ (hat1 _) ?_
                rintro _ _ ⟨rfl, rfl⟩
                refine goesT_eq (by simp -implicitDefEqProofs (disch := (first | omega | (simp; done) | fail)) [if_pos, if_neg, wrap_i64, tmod_pos, tdiv_pos, Int.toNat_add, f1, hq2, hz2, hu1, q, Nod.av, Nod.c]; rfl) ?_
                refine goesT_done ?_
                (try simp only [vq, if_true, reduceIte, Nat.reduceEqDiff, reduceCtorEq])
                repeat (first | ((first | refine zd ?_ | refine zx ?_ | refine zk ?_ | refine zl ?_ | refine zr ?_); refine zq ?_) | refine zs ?_ | refine zg ?_ | refine zb ?_ | refine zo ?_ | refine zt ?_ | refine zf ?_)
                exact ⟨m1.length - (i + 1), by omega, i + 1, false, rfl, hlt, hstep false (by simp [d1, c2]), st_keep' (by simp []) (by simp [])⟩
          · rw [decide_eq_false c1] at hq1
            by_cases c2 : nd.id = b
            · rw [decide_eq_true c2] at hq2
              refine awp_draw (.q 0 (.q 1 (.q 2 (.q 3 (.q 4 (.q 5 (.q 6 (.q 7 (.q 8 (.q 9 (.q 10 (.q 11 (.q 12 (.q 13 (.q 14 (.q 15 (.q 16 (.a 17 (.q 18 (.q 19 (.q 20 (.q 21 (.q 22 (.q 23 (.q 24 (.q 25 (.q 26 (.q 27 (.q 28 (.q 29 (.q 30 (.q 31 (.q 32 (.q 33 (.q 34 (.q 35 (.q 36 (.a 37 (.q 38 (.q 39 (.q 40 (.q 41 (.done))))))))))))))))))))))))))))))))))))))))))) (by kernel_rfl) (by kernel_rfl) (tree_start (goesT_eq (by simp -implicitDefEqProofs (disch := (first | omega | (simp; done) | fail)) [if_pos, if_neg, wrap_i64, tmod_pos, tdiv_pos, Int.toNat_add, hq1, hq2, hz2, hu1, q, Nod.av, Nod.c]; rfl) ?_))
              refine zP (callable_of Try.func24) _ (hat2 _) ?_
              rintro _ _ ⟨rfl, rfl⟩
              refine zE ?_
              refine goesT_done ?_
              (try simp only [vq, if_true, reduceIte, Nat.reduceEqDiff, reduceCtorEq])
              repeat (first | ((first | refine zd ?_ | refine zx ?_ | refine zk ?_ | refine zl ?_ | refine zr ?_); refine zq ?_) | refine zs ?_ | refine zg ?_ | refine zb ?_ | refine zo ?_ | refine zt ?_ | refine zf ?_)
              exact ⟨m1.length - (i + 1), by omega, i + 1, decide (0 ≤ idxI a nd.deps), rfl, hlt, hstep _ (by rw [decide_eq_true_eq, idx_ge]; exact ⟨fun e => .inr (.inr ⟨c2, e⟩), fun hh => by rcases hh with hh | ⟨hh, _⟩ | ⟨_, hh⟩; (cases hh); (exact absurd hh c1); exact hh⟩), st_keep' (by simp []) (by simp [])⟩
            · rw [decide_eq_false c2] at hq2
              refine awp_draw (.q 0 (.q 1 (.q 2 (.q 3 (.q 4 (.q 5 (.q 6 (.q 7 (.q 8 (.q 9 (.q 10 (.q 11 (.q 12 (.q 13 (.q 14 (.q 15 (.q 16 (.a 17 (.q 18 (.q 19 (.q 20 (.q 21 (.q 22 (.q 23 (.q 24 (.q 25 (.q 26 (.q 27 (.q 28 (.q 29 (.q 30 (.q 31 (.q 32 (.q 33 (.q 34 (.q 35 (.q 36 (.a 37 (.q 38 (.q 39 (.q 40 (.q 41 (.done))))))))))))))))))))))))))))))))))))))))))) (by kernel_rfl) (by kernel_rfl) (tree_start (goesT_eq (by simp -implicitDefEqProofs (disch := (first | omega | (simp; done) | fail)) [if_pos, if_neg, wrap_i64, tmod_pos, tdiv_pos, Int.toNat_add, hq1, hq2, hz2, hu1, q, Nod.av, Nod.c]; rfl) ?_))
              refine goesT_done ?_
              (try simp only [vq, if_true, reduceIte, Nat.reduceEqDiff, reduceCtorEq])
              repeat (first | ((first | refine zd ?_ | refine zx ?_ | refine zk ?_ | refine zl ?_ | refine zr ?_); refine zq ?_) | refine zs ?_ | refine zg ?_ | refine zb ?_ | refine zo ?_ | refine zt ?_ | refine zf ?_)
              exact ⟨m1.length - (i + 1), by omega, i + 1, false, rfl, hlt, hstep false (by simp [c1, c2]), st_keep' (by simp []) (by simp [])⟩
    · exact ⟨0, false, rfl, by omega, by simp, st_keep' (by simp []) (by simp [])⟩
  · rintro e st2 ⟨rfl, lk, hlk, hle⟩
    simp only [vq, if_true, reduceIte, Nat.reduceEqDiff, reduceCtorEq]
    refine awp_le hle ?_
    clear hle
    have haF : ∀ H, ACalls Try.prog 24 [.list (F.map Iid.av) .no, .agg [iv a.e, iv a.n, iv a.o]] H fun r h' => r = iv (idxI a F) ∧ h' = H := fun H => at_ok F a .no (by omega) H
    have hbF : ∀ H, ACalls Try.prog 24 [.list (F.map Iid.av) .no, .agg [iv b.e, iv b.n, iv b.o]] H fun r h' => r = iv (idxI b F) ∧ h' = H := fun H => at_ok F b .no (by omega) H
    have haG : ∀ H, ACalls Try.prog 24 [.list (G.map Iid.av) .no, .agg [iv a.e, iv a.n, iv a.o]] H fun r h' => r = iv (idxI a G) ∧ h' = H := fun H => at_ok G a .no (by omega) H
    have hbG : ∀ H, ACalls Try.prog 24 [.list (G.map Iid.av) .no, .agg [iv b.e, iv b.n, iv b.o]] H fun r h' => r = iv (idxI b G) ∧ h' = H := fun H => at_ok G b .no (by omega) H
    cases lk with
    | false =>
      repeat (first | ((first | refine zd ?_ | refine zx ?_ | refine zk ?_ | refine zl ?_ | refine zr ?_); refine zq ?_) | refine zs ?_ | refine zg ?_ | refine zb ?_ | refine zo ?_ | refine zt ?_ | refine zf ?_)
      first | refine zy (.inr rfl) ?_ | refine zy (.inl rfl) ?_
      simp
    | true =>
      obtain ⟨nd, hnd, hlink⟩ := hlk.1 rfl
      have hl2 : (a ∈ m1.map (·.id) ∧ b ∈ dpOf m1 a) ∨ (b ∈ m1.map (·.id) ∧ a ∈ dpOf m1 b) := by
        obtain ⟨i, hi, rfl⟩ := List.getElem_of_mem hnd
        have hd := (dp_at hv1 hi).1
        rcases hlink with ⟨rfl, h1⟩ | ⟨rfl, h1⟩
        · exact .inl ⟨List.mem_map.2 ⟨_, List.getElem_mem hi, rfl⟩, by rw [hd]; exact h1⟩
        · exact .inr ⟨List.mem_map.2 ⟨_, List.getElem_mem hi, rfl⟩, by rw [hd]; exact h1⟩
      by_cases d1 : a ∈ F
      rotate_left
      · have f1 : idxI a F < 0 := idx_lt.2 d1
        repeat (first | ((first | refine zd ?_ | refine zx ?_ | refine zk ?_ | refine zl ?_ | refine zr ?_); refine zq ?_) | refine zs ?_ | refine zg ?_ | refine zb ?_ | refine zo ?_ | refine zt ?_ | refine zf ?_)
        refine zp (callable_of Try.func24) _ (haF _) ?_
        rintro _ _ ⟨rfl, rfl⟩
        refine goes_eq (by simp -implicitDefEqProofs (disch := (first | omega | (simp; done) | fail)) [if_pos, if_neg, wrap_i64, tmod_pos, tdiv_pos, Int.toNat_add, f1]; rfl) ?_
        repeat (first | ((first | refine zd ?_ | refine zx ?_ | refine zk ?_ | refine zl ?_ | refine zr ?_); refine zq ?_) | refine zs ?_ | refine zg ?_ | refine zb ?_ | refine zo ?_ | refine zt ?_ | refine zf ?_)
        first | refine zy (.inr rfl) ?_ | refine zy (.inl rfl) ?_
        simp
      have f1 : ¬ idxI a F < 0 := by rw [idx_lt]; simpa using d1
      by_cases d2 : b ∈ F
      rotate_left
      · have f2 : idxI b F < 0 := idx_lt.2 d2
        repeat (first | ((first | refine zd ?_ | refine zx ?_ | refine zk ?_ | refine zl ?_ | refine zr ?_); refine zq ?_) | refine zs ?_ | refine zg ?_ | refine zb ?_ | refine zo ?_ | refine zt ?_ | refine zf ?_)
        refine zp (callable_of Try.func24) _ (haF _) ?_
        rintro _ _ ⟨rfl, rfl⟩
        refine goes_eq (by simp -implicitDefEqProofs (disch := (first | omega | (simp; done) | fail)) [if_pos, if_neg, wrap_i64, tmod_pos, tdiv_pos, Int.toNat_add, f1]; rfl) ?_
        refine zp (callable_of Try.func24) _ (hbF _) ?_
        rintro _ _ ⟨rfl, rfl⟩
        refine goes_eq (by simp -implicitDefEqProofs (disch := (first | omega | (simp; done) | fail)) [if_pos, if_neg, wrap_i64, tmod_pos, tdiv_pos, Int.toNat_add, f2]; rfl) ?_
        repeat (first | ((first | refine zd ?_ | refine zx ?_ | refine zk ?_ | refine zl ?_ | refine zr ?_); refine zq ?_) | refine zs ?_ | refine zg ?_ | refine zb ?_ | refine zo ?_ | refine zt ?_ | refine zf ?_)
        first | refine zy (.inr rfl) ?_ | refine zy (.inl rfl) ?_
        simp
      have f2 : ¬ idxI b F < 0 := by rw [idx_lt]; simpa using d2
      obtain ⟨d3, d4, hiff⟩ := hplain hl2 d1 d2
      have f3 : 0 ≤ idxI a G := idx_ge.2 d3
      have f4 : 0 ≤ idxI b G := idx_ge.2 d4
      have hfin : (decide (idxI a F < idxI b F) == decide (idxI a G < idxI b G)) = true := by
        have e1 : idxI a F < idxI b F ↔ idxI a G < idxI b G := by
          unfold idxI
          rw [if_pos d1, if_pos d2, if_pos d3, if_pos d4]
          omega
        simp [e1]
      repeat (first | ((first | refine zd ?_ | refine zx ?_ | refine zk ?_ | refine zl ?_ | refine zr ?_); refine zq ?_) | refine zs ?_ | refine zg ?_ | refine zb ?_ | refine zo ?_ | refine zt ?_ | refine zf ?_)
      refine zp (callable_of Try.func24) _ (haF _) ?_
      rintro _ _ ⟨rfl, rfl⟩
      refine goes_eq (by simp -implicitDefEqProofs (disch := (first | omega | (simp; done) | fail)) [if_pos, if_neg, wrap_i64, tmod_pos, tdiv_pos, Int.toNat_add, f1]; rfl) ?_
      refine zp (callable_of Try.func24) _ (hbF _) ?_
      rintro _ _ ⟨rfl, rfl⟩
      refine goes_eq (by simp -implicitDefEqProofs (disch := (first | omega | (simp; done) | fail)) [if_pos, if_neg, wrap_i64, tmod_pos, tdiv_pos, Int.toNat_add, f2]; rfl) ?_
      refine goes_done ?_
      (try simp only [vq, if_true, reduceIte, Nat.reduceEqDiff, reduceCtorEq])
      refine awp_cond_f rfl ?_
      refine awp_skip ?_
      (try simp only [vq, if_true, reduceIte, Nat.reduceEqDiff, reduceCtorEq])
      refine awp_seq ?_
      refine awp_draw (.q 0 (.q 1 (.q 2 (.q 3 (.a 4 (.q 5 (.q 6 (.q 7 (.q 8 (.q 9 (.a 10 (.q 11 (.q 12 (.q 13 (.q 14 (.q 15 (.q 17 (.q 18 (.q 21 (.q 22 (.q 24 (.q 25 (.a 16 (.a 19 (.q 20 (.a 23 (.a 26 (.q 27 (.q 28 (.q 29 (.q 30 (.done)))))))))))))))))))))))))))))))) (by kernel_rfl) (by kernel_rfl) (tree_start (goesT_eq (by simp -implicitDefEqProofs (disch := (first | omega | (simp; done) | fail)) [if_pos, if_neg, wrap_i64, tmod_pos, tdiv_pos, Int.toNat_add]; rfl) ?_))
      refine zP (callable_of Try.func24) _ (haG _) ?_
      rintro _ _ ⟨rfl, rfl⟩
      refine goesT_eq (by simp -implicitDefEqProofs (disch := (first | omega | (simp; done) | fail)) [if_pos, if_neg, wrap_i64, tmod_pos, tdiv_pos, Int.toNat_add, f3]; rfl) ?_
      refine zP (callable_of Try.func24) _ (hbG _) ?_
      rintro _ _ ⟨rfl, rfl⟩
      refine goesT_eq (by simp -implicitDefEqProofs (disch := (first | omega | (simp; done) | fail)) [if_pos, if_neg, wrap_i64, tmod_pos, tdiv_pos, Int.toNat_add, f4]; rfl) ?_
      refine zP (callable_of Try.func24) _ (haF _) ?_
      rintro _ _ ⟨rfl, rfl⟩
      refine zE ?_
      refine zP (callable_of Try.func24) _ (hbF _) ?_
      rintro _ _ ⟨rfl, rfl⟩
      refine zE ?_
      refine zP (callable_of Try.func24) _ (haG _) ?_
      rintro _ _ ⟨rfl, rfl⟩
      refine zE ?_
      refine zP (callable_of Try.func24) _ (hbG _) ?_
      rintro _ _ ⟨rfl, rfl⟩
      refine goesT_eq (by simp -implicitDefEqProofs (disch := (first | omega | (simp; done) | fail)) [if_pos, if_neg, wrap_i64, tmod_pos, tdiv_pos, Int.toNat_add, hfin]; rfl) ?_
      refine goesT_done ?_
      (try simp only [vq, if_true, reduceIte, Nat.reduceEqDiff, reduceCtorEq])
      repeat (first | ((first | refine zd ?_ | refine zx ?_ | refine zk ?_ | refine zl ?_ | refine zr ?_); refine zq ?_) | refine zs ?_ | refine zg ?_ | refine zb ?_ | refine zo ?_ | refine zt ?_ | refine zf ?_)
      first | refine zy (.inr rfl) ?_ | refine zy (.inl rfl) ?_
      simp
end Go.Proofs.Ytajgeofhlgoifaa.G

/- Graphs: the walk of a law: what can be done is done the same; how plain data of so much bulk comes in. -/
set_option linter.unusedVariables false
set_option linter.unusedSimpArgs false
set_option maxRecDepth 20000
namespace Go.Proofs.Ytajgeofhlgoifaa.GM
open Go Go.Proofs.Ytajgeofhlgoifaa.V Go.Proofs.Ytajgeofhlgoifaa.I Go.Proofs.Ytajgeofhlgoifaa.G Go.RowKit Go.WideShapes
def NodsB (w : World) (x : Value) : Prop := ∃ l : List Nod, l.length ≤ 1048576 ∧ VRel (g0 w) (.list (l.map Nod.av) .no) x
theorem bo_id : BOpens Try.prog 25 Iid.c (fun _ => True) (fun _ => 1) :=
  bopens_map (fun p : Int × Int × Int × Unit => Iid.mk p.1 p.2.1 p.2.2.1)
    (bopens_struct Try.underlying25 (by kernel_rfl) (fbopens_cons (k := 1) rfl (by kernel_rfl) (bopens_int Try.underlying3) (fbopens_cons (k := 1) rfl (by kernel_rfl) (bopens_int Try.underlying3) (fbopens_cons (k := 1) rfl (by kernel_rfl) (bopens_int Try.underlying3) fbopens_nil))))
    (fun _ => rfl) (fun _ h => trivial) (fun _ => by omega)
theorem bo_ids : BOpens Try.prog 23 (fun l : List Iid => [.list (l.map Iid.av) .no]) (fun _ => True) (fun _ => 1) :=
  bopens_map (fun l : List Iid => l) (bopens_sl (sz := 3) Try.underlying23 (by kernel_rfl) (by decide) bo_id Iid.av (fun _ => rfl) (fun _ => rfl)) (fun _ => rfl) (fun _ h => trivial) (fun l => by omega)
theorem bo_attr : BOpens Try.prog 43 (fun p : Int × List Iid => [iv p.1, .list (p.2.map Iid.av) .no]) (fun _ => True) (fun _ => 1) :=
  bopens_map (fun p : Int × List Iid × Unit => (p.1, p.2.1))
    (bopens_struct Try.underlying43 (by kernel_rfl) (fbopens_cons (k := 1) rfl (by kernel_rfl) (bopens_int Try.underlying3) (fbopens_cons (k := 1) rfl (by kernel_rfl) bo_ids fbopens_nil)))
    (fun _ => rfl) (fun _ h => trivial) (fun _ => by omega)
theorem bo_nod : BOpens Try.prog 45 Nod.c (fun _ => True) (fun _ => 1) :=
  bopens_map (fun p : Iid × (Int × List Iid) × Unit => Nod.mk p.1 p.2.1.1 p.2.1.2)
    (bopens_struct Try.underlying45 (by kernel_rfl) (fbopens_cons (k := 3) rfl (by kernel_rfl) bo_id (fbopens_cons (k := 2) rfl (by kernel_rfl) bo_attr fbopens_nil)))
    (fun _ => rfl) (fun _ h => trivial) (fun _ => by omega)
theorem sum_one (l : List Nod) : (l.map fun _ => 1).sum = l.length := by
  induction l with
  | nil => rfl
  | cons a l ih => simp [ih]; omega
theorem bo_nods : BOpens Try.prog 22 (fun l : List Nod => [.list (l.map Nod.av) .no]) (fun _ => True) (fun l => l.length) :=
  bopens_map (fun l : List Nod => l) (bopens_sl (sz := 5) Try.underlying22 (by kernel_rfl) (by decide) bo_nod Nod.av (fun _ => rfl) (fun _ => rfl)) (fun _ => rfl) (fun _ h => trivial) (fun l => by rw [sum_one]; omega)
theorem open_api_ID {H : Type} {enc : TypeId × Value → H} {w : World} {v : Value} {d : DataW H} {p : List MemPlace} {r : Reach} {b0 : Nat} (hv : Value.okWide Try.prog w r b0 25 v) (h : DataW.Trod enc Try.prog w 0 (fun _ => true) true 25 v d p) (hnf : w.noneFrozen p) (hb : Rows.uptoBulk d ≤ 1048576) : ∃ x : Came, v = x.v ∧ IdAt w x.v :=
  G.open_api_ID hv h hnf
theorem open_Sl_graph_Node {H : Type} {enc : TypeId × Value → H} {w : World} {v : Value} {d : DataW H} {p : List MemPlace} {r : Reach} {b0 : Nat} (hv : Value.okWide Try.prog w r b0 22 v) (h : DataW.Trod enc Try.prog w 0 (fun _ => true) true 22 v d p) (hnf : w.noneFrozen p) (hb : Rows.uptoBulk d ≤ 1048576) : ∃ x : Came, v = x.v ∧ NodsB w x.v :=
  ⟨⟨v⟩, rfl, by
    obtain ⟨fuel, h⟩ := h
    obtain ⟨a, n, c, rfl⟩ := okWide_slice Try.underlying22 hv
    obtain ⟨l, _, hm, hr⟩ := bo_nods H enc w fuel _ _ h hnf
    have hm' : l.length ≤ Rows.uptoBulk d := hm
    refine ⟨l, by omega, ?_⟩
    have := hr.2 0 (by simp) (by have := hr.1; simp at this ⊢; omega)
    simpa [Value.cells] using this⟩
theorem walk_GraphMore (x0 : Came) {w : World} (f0 : NodsB w x0.v) (x1 : Came) (f1 : NodsB w x1.v) (x2 : Came) (f2 : IdAt w x2.v) (x3 : Came) (f3 : IdAt w x3.v) :
    Calls Try.prog 4 #[x0.v, x1.v, x2.v, x3.v] w fun e w' => e = .returned (.bool true) ∧ Below w.heap.size w w' := by
  obtain ⟨m1, h1, r1⟩ := f0
  obtain ⟨m2, h2, r2⟩ := f1
  obtain ⟨a, ha⟩ := f2
  obtain ⟨b, hb⟩ := f3
  exact Law.calls (more_law m1 m2 a b h1 h2 []) w (vals_of (cells_cons r1 (cells_cons r2 (cells_cons ha (cells_cons hb (cells_nil _))))))
end Go.Proofs.Ytajgeofhlgoifaa.GM
