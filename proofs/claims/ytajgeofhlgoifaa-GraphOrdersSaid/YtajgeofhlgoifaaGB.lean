import Derived.Test.YtajgeofhlgoifaaGA
import Derived.Test.YtajgeofhlgoifaaV36
/- Graphs: a list as one whose cells turn; what a node leads to, in plain words. -/
set_option linter.unusedVariables false
set_option linter.unusedSimpArgs false
set_option maxRecDepth 20000
namespace Go.Proofs.Ytajgeofhlgoifaa.G
open Go Go.Proofs.Ytajgeofhlgoifaa.V Go.Proofs.Ytajgeofhlgoifaa.I Go.RowKit
theorem iid_onesL (l : List Iid) : onesL (l.map Iid.av) = true := by
  induction l with
  | nil => rfl
  | cons a l ih => simp [onesL, ih, Iid.av, Iid.c]
theorem nbg {n : Nat} (h : n ≤ 1000000) : n * 24 ≤ 140737488355328 ∧ n ≤ 140737488355328 := by omega
theorem iclone_nil (t : Tok) (h : AHeap) : ACalls Try.prog 63 [.list [] t] h fun r h' => r = .list [] .no ∧ h' = h := by
  refine acalls_of_awp Try.func63 rfl (by simp only [List.length_cons, List.length_nil]; decide) ?_
  simp only [params_cons, params_nil]
  refine awp_seq (awp_region' ?_)
  refine zn ?_
  refine goes_done ?_
  simp only [vq, if_true, reduceIte, Nat.reduceEqDiff, reduceCtorEq]
  refine awp_seq (awp_seq (awp_region_at 1 rfl rfl ?_))
  refine zn ?_
  refine goes_done ?_
  refine aops_nilcmp (xs := []) (tk := t) rfl rfl Try.underlying23 rfl ?_
  intro b hb
  refine aops_end ?_
  refine zn ?_
  refine goes_done ?_
  simp only [vq, if_true, reduceIte, Nat.reduceEqDiff, reduceCtorEq]
  rcases b with _ | _
  · repeat (first | ((first | refine zd ?_ | refine zx ?_ | refine zk ?_ | refine zl ?_ | refine zr ?_); refine zq ?_) | refine zs ?_ | refine zg ?_ | refine zb ?_ | refine zo ?_ | refine zt ?_ | refine zf ?_)
    first | refine zy (.inr rfl) ?_ | refine zy (.inl rfl) ?_
    simp
  · repeat (first | ((first | refine zd ?_ | refine zx ?_ | refine zk ?_ | refine zl ?_ | refine zr ?_); refine zq ?_) | refine zs ?_ | refine zg ?_ | refine zb ?_ | refine zo ?_ | refine zt ?_ | refine zf ?_)
    first | refine zY (.inr rfl) ?_ | refine zY (.inl rfl) ?_
    simp
theorem iclone_arr (l : List Iid) (t : Tok) (hne : l ≠ []) (hl : l.length ≤ 1000000) (h : AHeap) : ACalls Try.prog 63 [.list (l.map Iid.av) t] h fun r h' => ∃ c u, l.length ≤ c ∧ u.length = (c - l.length) * 3 ∧ r = .arr h.length 0 l.length c ∧ h' = h ++ [.cells (l.flatMap Iid.c ++ u)] := by
  obtain ⟨b1, b2⟩ := nbg hl
  refine acalls_of_awp Try.func63 rfl (by simp only [List.length_cons, List.length_nil]; decide) ?_
  simp only [params_cons, params_nil]
  refine awp_seq (awp_region' ?_)
  refine zn ?_
  refine goes_done ?_
  simp only [vq, if_true, reduceIte, Nat.reduceEqDiff, reduceCtorEq]
  refine awp_seq (awp_seq (awp_region_at 1 rfl rfl ?_))
  refine zn ?_
  refine goes_done ?_
  refine aops_nilcmp (xs := l.map Iid.av) (tk := t) rfl rfl Try.underlying23 rfl ?_
  intro b hb
  obtain rfl := hb (by simpa using hne)
  refine aops_end ?_
  refine zn ?_
  refine goes_done ?_
  simp only [vq, if_true, reduceIte, Nat.reduceEqDiff, reduceCtorEq]
  refine awp_cond_f rfl ?_
  refine awp_skip ?_
  simp only [vq, if_true, reduceIte, Nat.reduceEqDiff, reduceCtorEq]
  refine awp_seq (awp_region_at 2 rfl rfl ?_)
  refine zn ?_
  refine goes_done ?_
  have hp : 0 < l.length := List.length_pos_iff.2 hne
  have hm : (l.map Iid.av).length = l.length := by simp
  refine aops_append_ks (e := 25) (k := 3) (by_ := 24) (m := 0) (c := 0) (cs := []) (zc := [iv 0, iv 0, iv 0]) (ys := l.map Iid.av) rfl rfl Try.underlying23 (by rfl) (by rfl) (by rfl) rfl (by decide) (iid_uni l) (iid_onesL l) .nil (by simp) (by rw [hm]; omega) (by rw [hm]; omega) ?_
  refine ⟨fun hr => absurd hr (by rw [hm]; omega), fun _ he => absurd he (by simpa using hne), fun _ c' u hc' hu => ?_⟩
  rw [hm, Nat.zero_add] at hc' hu ⊢
  rw [flc_cells]
  refine aops_end ?_
  refine zn ?_
  refine goes_done ?_
  simp only [vq, if_true, reduceIte, Nat.reduceEqDiff, reduceCtorEq]
  repeat (first | ((first | refine zd ?_ | refine zx ?_ | refine zk ?_ | refine zl ?_ | refine zr ?_); refine zq ?_) | refine zs ?_ | refine zg ?_ | refine zb ?_ | refine zo ?_ | refine zt ?_ | refine zf ?_)
  first | refine body_all (.inr rfl) (by simp -implicitDefEqProofs; rfl) (by simp -implicitDefEqProofs; rfl) (by first | (simp; done) | (simp; omega) | omega) ?_ | refine body_all (.inl rfl) (by simp -implicitDefEqProofs; rfl) (by simp -implicitDefEqProofs; rfl) (by first | (simp; done) | (simp; omega) | omega) ?_
  exact ⟨c', u, hc', hu, rfl, by simp⟩
/-! What a node leads to. -/
def dpOf (l : List Nod) (k : Iid) : List Iid := ((findN k l).map (·.deps)).getD []
def sqOf (l : List Nod) (k : Iid) : Int := ((findN k l).map (·.seq)).getD 0
def zAt : AV := .agg [iv 0, .list [] .full]
theorem zero_attr (g : Ghost) (w : World) : ∃ v, (zeroValue 43).run Try.prog w = .ok v w ∧ VRel g zAt v :=
  ⟨_, Try.zeroValue43 w, by
    have h : AV.ofConst (.agg #[.int .i64 0, .slice none 0 0]) = zAt := by kernel_rfl
    have := VRel.ofConst g (.agg #[.int .i64 0, .slice none 0 0])
    rwa [h] at this⟩
theorem zero_bool (g : Ghost) (w : World) : ∃ v, (zeroValue 4).run Try.prog w = .ok v w ∧ VRel g (.bool false) v := ⟨.bool false, Try.zeroValue4 w, .bool _⟩
theorem lookE_get (z : AV) (k : Iid) (es : Ents Iid) : lookE z k es = (getE k es).getD z := by
  unfold lookE getE
  cases keyAt k es <;> rfl
theorem look_nod (l : List Nod) (k : Iid) : ∃ t, lookE zAt k (nodP l).1 = .agg [iv (sqOf l k), .list ((dpOf l k).map Iid.av) t] := by
  rw [lookE_get, (nod_ok l).get]
  unfold sqOf dpOf
  cases findN k l with
  | none => exact ⟨.full, rfl⟩
  | some x => exact ⟨.no, rfl⟩
/-- On from those that are not done. -/
inductive Lead (dp : Iid → List Iid) (dn : List Iid) (from_ : Iid) : Iid → Prop
  | first {y : Iid} : y ∈ dp from_ → Lead dp dn from_ y
  | next {x y : Iid} : Lead dp dn from_ x → x ∉ dn → y ∈ dp x → Lead dp dn from_ y
/-- Between two steps: what waits, what is met. -/
structure LInv (dp : Iid → List Iid) (dn : List Iid) (f : Iid) (st ks : List Iid) : Prop where
  nd : ks.Nodup
  sd : ∀ y, y ∈ st ∨ y ∈ ks → Lead dp dn f y
  beg : ∀ y ∈ dp f, y ∈ st ∨ y ∈ ks
  nxt : ∀ x ∈ ks, x ∉ dn → ∀ y ∈ dp x, y ∈ st ∨ y ∈ ks
theorem LInv.start (dp : Iid → List Iid) (dn : List Iid) (f : Iid) : LInv dp dn f (dp f) [] := ⟨.nil, fun y h => .first (by simpa using h), fun y h => .inl h, by simp⟩
theorem LInv.old {dp : Iid → List Iid} {dn : List Iid} {f x : Iid} {st ks : List Iid} (I : LInv dp dn f (st ++ [x]) ks) (hx : x ∈ ks) : LInv dp dn f st ks := by
  have key : ∀ y, (y ∈ st ++ [x] ∨ y ∈ ks) → y ∈ st ∨ y ∈ ks := fun y h => by
    rcases h with h | h
    · rcases List.mem_append.1 h with h | h
      · exact .inl h
      · simp at h; subst h; exact .inr hx
    · exact .inr h
  exact ⟨I.nd, fun y h => I.sd y (by rcases h with h | h; exact .inl (by simp [h]); exact .inr h), fun y h => key y (I.beg y h), fun z hz hd y h => key y (I.nxt z hz hd y h)⟩
theorem LInv.new {dp : Iid → List Iid} {dn : List Iid} {f x : Iid} {st ks : List Iid} (I : LInv dp dn f (st ++ [x]) ks) (hx : x ∉ ks) : LInv dp dn f (if x ∈ dn then st else st ++ dp x) (ks ++ [x]) := by
  have hl : Lead dp dn f x := I.sd x (by simp)
  have key : ∀ y, (y ∈ st ++ [x] ∨ y ∈ ks) → y ∈ (if x ∈ dn then st else st ++ dp x) ∨ y ∈ ks ++ [x] := fun y h => by
    rcases h with h | h
    · rcases List.mem_append.1 h with h | h
      · left; split
        · exact h
        · simp [h]
      · right; simp at h; simp [h]
    · right; simp [h]
  refine ⟨?_, fun y h => ?_, fun y h => key y (I.beg y h), fun z hz hd y h => ?_⟩
  · rw [List.nodup_append]; exact ⟨I.nd, by simp, fun a ha b hb e => by simp at hb; subst hb; subst e; exact hx ha⟩
  · rcases h with h | h
    · by_cases hd : x ∈ dn
      · rw [if_pos hd] at h; exact I.sd y (.inl (by simp [h]))
      · rw [if_neg hd] at h
        rcases List.mem_append.1 h with h | h
        · exact I.sd y (.inl (by simp [h]))
        · exact .next hl hd h
    · rcases List.mem_append.1 h with h | h
      · exact I.sd y (.inr h)
      · simp at h; subst h; exact hl
  · rcases List.mem_append.1 hz with hz | hz
    · exact key y (I.nxt z hz hd y h)
    · simp at hz; subst hz
      left; rw [if_neg hd]; simp [h]
theorem LInv.fin {dp : Iid → List Iid} {dn : List Iid} {f : Iid} {ks : List Iid} (I : LInv dp dn f [] ks) (y : Iid) : y ∈ ks ↔ Lead dp dn f y := by
  refine ⟨fun h => I.sd y (.inr h), fun h => ?_⟩
  induction h with
  | first h => simpa using I.beg _ h
  | next _ hd h ih => simpa using I.nxt _ ih hd _ h
end Go.Proofs.Ytajgeofhlgoifaa.G

/- Graphs: what a node leads to. -/
set_option linter.unusedVariables false
set_option linter.unusedSimpArgs false
set_option maxRecDepth 20000
namespace Go.Proofs.Ytajgeofhlgoifaa.G
open Go Go.Proofs.Ytajgeofhlgoifaa.V Go.Proofs.Ytajgeofhlgoifaa.I Go.RowKit
def sumL (l : List Nod) (ks : List Iid) : Nat := ((l.filter fun x => !ks.contains x.id).map fun x => x.deps.length).sum
def sumE (l : List Nod) (k : Iid) : Nat := ((l.filter fun x => decide (x.id = k)).map fun x => x.deps.length).sum
theorem sumL_snoc (k : Iid) (ks : List Iid) (hk : k ∉ ks) : ∀ l : List Nod, sumL l (ks ++ [k]) + sumE l k = sumL l ks
  | [] => rfl
  | x :: l => by
    have ih := sumL_snoc k ks hk l
    unfold sumL sumE at ih ⊢
    simp only [List.filter_cons]
    by_cases h1 : x.id = k
    · have h2 : ks.contains x.id = false := by rw [h1]; simpa using hk
      have h3 : (ks ++ [k]).contains x.id = true := by rw [h1]; simp
      simp only [h1, h2, h3] at *
      simp at ih h2 ⊢
      simp [hk] at *
      omega
    · have h3 : (ks ++ [k]).contains x.id = ks.contains x.id := by
        rw [Bool.eq_iff_iff]; simp [h1]
      simp only [h1, h3] at *
      cases hc : ks.contains x.id <;> simp at ih ⊢ <;> omega
theorem mem_sum {n : Nat} : ∀ {l : List Nat}, n ∈ l → n ≤ l.sum
  | m :: l, h => by
    rcases List.mem_cons.1 h with rfl | h
    · simp
    · have := mem_sum h; simp; omega
theorem dp_sumE (l : List Nod) (k : Iid) : (dpOf l k).length ≤ sumE l k := by
  unfold dpOf
  cases h : findN k l with
  | none => simp
  | some x =>
    have h1 := List.find?_some h
    have h2 : x ∈ l := by simpa using List.mem_of_find?_eq_some h
    exact mem_sum (List.mem_map.2 ⟨x, List.mem_filter.2 ⟨h2, by simpa using h1⟩, rfl⟩)
def SA (X : AHeap) (b : Nat) (sv : AV) (st : List Iid) : Prop :=
  (st = [] ∧ sv = .list [] .no) ∨ ∃ a c cs, sv = .arr (b + (a + 3)) 0 st.length c ∧ X[a]? = some (.cells cs) ∧ cs.length = c * 3 ∧ st.length ≤ c ∧ 0 < c ∧ cs.take (st.length * 3) = st.flatMap Iid.c
theorem lead_ok (l : List Nod) (dn : List Iid) (i1 i2 : Nat) (f : Iid) (h : AHeap) (N : Net h l dn i1 i2) (hW : (dpOf l f).length + sumL l [] ≤ 100000) : ACalls Try.prog 43 [.agg [.map i1, .map i2], Iid.av f] h fun r h' =>
    r = .map (h.length + 2) ∧ ∃ a b ks X, h' = h ++ (a :: b :: (ms ks).o :: X) ∧ ks.Nodup ∧ ∀ y, y ∈ ks ↔ Lead (dpOf l) dn f y := by
  obtain ⟨ho1, ho2⟩ := N
  have hb1 : ∀ Y : AHeap, (h ++ Y)[i1]? = some (mapO Iid.av (nodP l).1 (nodP l).2) := fun Y => by rw [List.getElem?_append_left (List.getElem?_eq_some_iff.1 ho1).1]; exact ho1
  have hb2 : ∀ Y : AHeap, (h ++ Y)[i2]? = some (mapO Iid.av (ms dn).1 (ms dn).2) := fun Y => by rw [List.getElem?_append_left (List.getElem?_eq_some_iff.1 ho2).1]; exact ho2
  unfold Iid.av Iid.c
  refine acalls_of_awp Try.func43 rfl (by simp only [List.length_cons, List.length_nil]; decide) ?_
  simp only [params_cons, params_nil]
  refine awp_seq ?_
  refine zg ?_
  refine goes_done ?_
  (try simp only [vq, if_true, reduceIte, Nat.reduceEqDiff, reduceCtorEq])
  refine awp_hard (id := h.length) (by simp -implicitDefEqProofs; rfl) ?_
  simp -implicitDefEqProofs only [Slots.melt, AV.melt, Nat.add_left_cancel_iff, Nat.add_eq_left, Nat.left_eq_add, Nat.reduceEqDiff, reduceIte, Nat.succ_ne_self, Nat.one_ne_zero, Nat.zero_ne_one, List.set_append_right, List.set_append_left, Nat.sub_self, Nat.le_refl, Nat.add_sub_cancel_left, Nat.le_add_right, List.set_cons_zero, List.set_cons_succ]
  refine awp_hard (id := h.length + 1) (by simp -implicitDefEqProofs; rfl) ?_
  simp -implicitDefEqProofs only [Slots.melt, AV.melt, Nat.add_left_cancel_iff, Nat.add_eq_left, Nat.left_eq_add, Nat.reduceEqDiff, reduceIte, Nat.succ_ne_self, Nat.one_ne_zero, Nat.zero_ne_one, List.set_append_right, List.set_append_left, Nat.sub_self, Nat.le_refl, Nat.add_sub_cancel_left, Nat.le_add_right, List.set_cons_zero, List.set_cons_succ]
  refine awp_seq ?_
  refine awp_region_at 0 rfl rfl ?_
  refine zn ?_
  refine goes_done ?_
  refine aops_makeMap rfl rfl ?_
  refine aops_end ?_
  refine zn ?_
  refine goes_done ?_
  simp only [vq, if_true, reduceIte, Nat.reduceEqDiff, reduceCtorEq]
  refine awp_seq ?_
  refine awp_region_at 3 rfl rfl ?_
  refine zn ?_
  refine goes_done ?_
  refine aops_look (id := i1) (es := (nodP l).1) (clock := (nodP l).2) (k := f) (z := zAt) (c := false) iid_key rfl rfl Try.underlying53 zero_attr rfl rfl (hb1 _) ?_
  obtain ⟨t, ht⟩ := look_nod l f
  rw [ht]
  refine aops_end ?_
  refine zn ?_
  have hcl : ACalls Try.prog 63 [.list ((dpOf l f).map Iid.av) .no] (h ++ [.dead, .dead, .map [] 0]) fun r h' => ∃ X, h' = h ++ (.dead :: .dead :: .map [] 0 :: X) ∧ SA X h.length r (dpOf l f) := by
    by_cases hd : dpOf l f = []
    · rw [hd]
      refine (iclone_nil .no _).mono ?_
      rintro r h' ⟨rfl, rfl⟩
      exact ⟨[], rfl, .inl ⟨rfl, rfl⟩⟩
    · refine (iclone_arr (dpOf l f) .no hd (by omega) _).mono ?_
      rintro r h' ⟨c, u, h1, h2, rfl, rfl⟩
      have hp : 0 < (dpOf l f).length := List.length_pos_iff.2 hd
      refine ⟨[.cells ((dpOf l f).flatMap Iid.c ++ u)], by simp, .inr ⟨0, c, _, by simp, rfl, ?_, h1, by omega, ?_⟩⟩
      · rw [List.length_append, flc_len, h2]; omega
      · rw [List.take_left' (flc_len _)]
  refine zp (callable_of Try.func63) _ hcl ?_
  rintro sv _ ⟨X, rfl, hsa⟩
  refine ze ?_
  refine goes_done ?_
  simp only [vq, if_true, reduceIte, Nat.reduceEqDiff, reduceCtorEq]
  repeat (first | ((first | refine zd ?_ | refine zx ?_ | refine zk ?_ | refine zl ?_ | refine zr ?_); refine zq ?_) | refine zs ?_ | refine zg ?_ | refine zb ?_ | refine zo ?_ | refine zt ?_ | refine zf ?_)
  have hst := LInv.start (dpOf l) dn f
  refine awp_loop (fun z st => ∃ (ks st0 : List Iid) (X : AHeap) (sv : AV), z = st0.length + sumL l ks ∧ z ≤ 100000 ∧ LInv (dpOf l) dn f st0 ks ∧ SA X h.length sv st0 ∧ st.le ⟨Try.f43.ntmps, [(2, .ref [.map i1, .map i2] 0), (5, .map (h.length + 2)), (6, sv)], h ++ (.dead :: .dead :: (ms ks).o :: X)⟩) ((dpOf l f).length + sumL l []) ?_ ?_
  rotate_left
  rintro z st ⟨ks, st0, X, sv, rfl, hz, hI, hsa, hle⟩
  · refine awp_le hle ?_
    clear hle
    rcases List.eq_nil_or_concat st0 with rfl | ⟨s0, x, rfl⟩
    · have hfin := hI.fin
      rcases hsa with ⟨_, rfl⟩ | ⟨a, c, cs, rfl, ha, hc1, hc2, hc3, hc4⟩
      · repeat (first | ((first | refine zd ?_ | refine zx ?_ | refine zk ?_ | refine zl ?_ | refine zr ?_); refine zq ?_) | refine zs ?_ | refine zg ?_ | refine zb ?_ | refine zo ?_ | refine zt ?_ | refine zf ?_)
        first | refine body_all (.inr rfl) (by simp -implicitDefEqProofs; rfl) (by simp -implicitDefEqProofs; rfl) (by first | (simp; done) | (simp; omega) | omega) ?_ | refine body_all (.inl rfl) (by simp -implicitDefEqProofs; rfl) (by simp -implicitDefEqProofs; rfl) (by first | (simp; done) | (simp; omega) | omega) ?_
        exact ⟨rfl, _, _, ks, X, rfl, hI.nd, hfin⟩
      · repeat (first | ((first | refine zd ?_ | refine zx ?_ | refine zk ?_ | refine zl ?_ | refine zr ?_); refine zq ?_) | refine zs ?_ | refine zg ?_ | refine zb ?_ | refine zo ?_ | refine zt ?_ | refine zf ?_)
        first | refine body_all (.inr rfl) (by simp -implicitDefEqProofs; rfl) (by simp -implicitDefEqProofs; rfl) (by first | (simp; done) | (simp; omega) | omega) ?_ | refine body_all (.inl rfl) (by simp -implicitDefEqProofs; rfl) (by simp -implicitDefEqProofs; rfl) (by first | (simp; done) | (simp; omega) | omega) ?_
        exact ⟨rfl, _, _, ks, X, rfl, hI.nd, hfin⟩
    · rw [List.concat_eq_append] at *
      rcases hsa with ⟨h0, _⟩ | ⟨a, c, cs, rfl, ha, hc1, hc2, hc3, hc4⟩
      · simp at h0
      have hn : (s0 ++ [x]).length = s0.length + 1 := by simp
      rw [hn] at hc2 hc4 hz ⊢
      have hxl : a < X.length := (List.getElem?_eq_some_iff.1 ha).1
      have hc5 : (cs.drop (s0.length * 3)).take 3 = [iv x.e, iv x.n, iv x.o] := by
        have h1 : (cs.take ((s0.length + 1) * 3)).drop (s0.length * 3) = [iv x.e, iv x.n, iv x.o] := by
          rw [hc4, List.flatMap_append, List.drop_left' (flc_len _)]; simp [Iid.c]
        rw [← h1, List.drop_take]
        congr 1; omega
      have hc6 : cs.take (s0.length * 3) = s0.flatMap Iid.c := by
        have h1 : (cs.take ((s0.length + 1) * 3)).take (s0.length * 3) = s0.flatMap Iid.c := by
          rw [hc4, List.flatMap_append, List.take_left' (flc_len _)]
        rw [← h1, List.take_take]; congr 1; omega
      have q : (0 : Int) < (s0.length : Int) + 1 := by omega
      have hg : ∀ (Y : AHeap), (X ++ Y)[a]? = some (.cells cs) := fun Y => by rw [List.getElem?_append_left hxl]; exact ha
      have hgs : ∀ (Y : AHeap) (o : AObj), (X ++ Y).set a o = X.set a o ++ Y := fun Y o => List.set_append_left _ _ hxl
      have hc7 : s0.length * 3 + 3 ≤ cs.length := by omega
      clear hxl
      refine awp_seq ?_
      refine awp_seq ?_
      refine zh (by simp -implicitDefEqProofs (disch := (first | omega | (simp; done) | fail)) [if_pos, if_neg, wrap_i64, tmod_pos, tdiv_pos, Int.toNat_add, q]; rfl) ?_
      refine goes_done ?_
      (try simp only [vq, if_true, reduceIte, Nat.reduceEqDiff, reduceCtorEq])
      refine awp_cond_t rfl ?_
      refine awp_skip ?_
      simp only [vq, if_true, reduceIte, Nat.reduceEqDiff, reduceCtorEq]
      refine awp_block ?_
      refine awp_seq ?_
      refine zh (by simp -implicitDefEqProofs (disch := (first | omega | (simp; done) | fail)) [if_pos, if_neg, wrap_i64, tmod_pos, tdiv_pos, Int.toNat_add, ha, hc5, hc7]; rfl) ?_
      refine goes_done ?_
      (try simp only [vq, if_true, reduceIte, Nat.reduceEqDiff, reduceCtorEq])
      refine awp_seq ?_
      refine zh (by simp -implicitDefEqProofs (disch := (first | omega | (simp; done) | fail)) [if_pos, if_neg, wrap_i64, tmod_pos, tdiv_pos, Int.toNat_add, hc2]; rfl) ?_
      refine goes_done ?_
      (try simp only [vq, if_true, reduceIte, Nat.reduceEqDiff, reduceCtorEq])
      refine awp_seq ?_
      refine awp_seq ?_
      refine awp_region_at 2 rfl rfl ?_
      refine zn ?_
      refine goes_done ?_
      refine aops_look (id := h.length + 2) (es := (ms ks).1) (clock := (ms ks).2) (k := x) (z := .bool false) (c := false) iid_key rfl rfl Try.underlying54 zero_bool rfl rfl (by simp [MS.o, mapO]) ?_
      rw [done_get]
      refine aops_end ?_
      refine zn ?_
      refine goes_done ?_
      simp only [vq, if_true, reduceIte, Nat.reduceEqDiff, reduceCtorEq]
      by_cases hx : x ∈ ks
      · simp only [hx, decide_true]
        refine awp_cond_t rfl ?_
        repeat (first | ((first | refine zd ?_ | refine zx ?_ | refine zk ?_ | refine zl ?_ | refine zr ?_); refine zq ?_) | refine zs ?_ | refine zg ?_ | refine zb ?_ | refine zo ?_ | refine zt ?_ | refine zf ?_)
        refine ⟨s0.length + sumL l ks, by omega, ks, s0, X ++ [.cells [iv x.e, iv x.n, iv x.o]], _, rfl, by omega, hI.old hx, .inr ⟨a, c, cs, rfl, hg _, hc1, by omega, hc3, hc6⟩, ?_⟩
        exact st_keep' (by simp []) (by simp [])
      · simp only [hx, decide_false]
        have hnew := hI.new hx
        have hsum := sumL_snoc x ks hx l
        have hdle := dp_sumE l x
        refine awp_cond_f rfl ?_
        refine awp_skip ?_
        simp only [vq, if_true, reduceIte, Nat.reduceEqDiff, reduceCtorEq]
        refine awp_seq ?_
        refine awp_region_at 2 rfl rfl ?_
        refine zn ?_
        refine goes_done ?_
        refine aops_put (id := h.length + 2) (es := (ms ks).1) (clock := (ms ks).2) (k := x) (v := .bool true) iid_key rfl rfl rfl Try.underlying54 rfl rfl rfl (by simp [MS.o, mapO]) ?_
        refine aops_end ?_
        refine zn ?_
        refine goes_done ?_
        simp only [vq, if_true, reduceIte, Nat.reduceEqDiff, reduceCtorEq]
        have hmo : mapO Iid.av (putE x (.bool true) (ms ks).2 (ms ks).1) (putC x (ms ks).2 (ms ks).1) = (ms (ks ++ [x])).o := by
          unfold ms; rw [putL_snoc]; rfl
        rw [hmo]
        refine awp_seq ?_
        refine awp_region_at 3 rfl rfl ?_
        refine zn ?_
        refine goes_done ?_
        refine aops_look (id := i2) (es := (ms dn).1) (clock := (ms dn).2) (k := x) (z := .bool false) (c := false) iid_key rfl rfl Try.underlying54 zero_bool rfl rfl (by simp [hb2]) ?_
        rw [done_get]
        refine aops_end ?_
        refine zn ?_
        refine goes_done ?_
        simp only [vq, if_true, reduceIte, Nat.reduceEqDiff, reduceCtorEq]
        by_cases hd : x ∈ dn
        · rw [if_pos hd] at hnew
          simp only [hd, decide_true]
          refine awp_cond_f rfl ?_
          repeat (first | ((first | refine zd ?_ | refine zx ?_ | refine zk ?_ | refine zl ?_ | refine zr ?_); refine zq ?_) | refine zs ?_ | refine zg ?_ | refine zb ?_ | refine zo ?_ | refine zt ?_ | refine zf ?_)
          refine ⟨s0.length + sumL l (ks ++ [x]), by omega, ks ++ [x], s0, X ++ [.cells [iv x.e, iv x.n, iv x.o]], _, rfl, by omega, hnew, .inr ⟨a, c, cs, rfl, hg _, hc1, by omega, hc3, hc6⟩, ?_⟩
          exact st_keep' (by simp []) (by simp [])
        · rw [if_neg hd] at hnew
          simp only [hd, decide_false]
          refine awp_cond_t rfl ?_
          refine awp_region_at 4 rfl rfl ?_
          refine zn ?_
          refine goes_done ?_
          refine aops_look (id := i1) (es := (nodP l).1) (clock := (nodP l).2) (k := x) (z := zAt) (c := false) iid_key rfl rfl Try.underlying53 zero_attr rfl rfl (by simp [hb1]) ?_
          obtain ⟨t2, ht2⟩ := look_nod l x
          rw [ht2]
          refine aops_run (l1 := [_]) ?_
          refine zn ?_
          refine goes_done ?_
          obtain ⟨b1, b2⟩ := nbg (n := s0.length + (dpOf l x).length) (by omega)
          have hml : ((dpOf l x).map Iid.av).length = (dpOf l x).length := by simp
          refine aops_append_ks (e := 25) (k := 3) (by_ := 24) (m := s0.length) (c := c) (cs := cs) (zc := [iv 0, iv 0, iv 0]) (ys := (dpOf l x).map Iid.av) rfl rfl Try.underlying23 (by rfl) (by rfl) (by rfl) rfl (by decide) (iid_uni _) (iid_onesL _) (RowAt.arr _ _ _ cs (by simp [hg]) hc1 (by omega) hc3) rfl (by rw [hml]; exact b1) (by rw [hml]; exact b2) ?_
          have hln : (s0 ++ dpOf l x).length = s0.length + (dpOf l x).length := by simp
          refine ⟨fun hroom id' hid => ?_, fun h0 => ?_, fun hgrow c' u hc' hu => ?_⟩
          · injection hid with hid
            subst hid
            rw [hml] at hroom
            rw [flc_cells, hml]
            have hset : (h ++ AObj.dead :: AObj.dead :: (ms (ks ++ [x])).o :: (X ++ [AObj.cells [iv x.e, iv x.n, iv x.o]])).set (h.length + (a + 3)) (.cells (V.over cs (s0.length * 3) ((dpOf l x).flatMap Iid.c))) = h ++ AObj.dead :: AObj.dead :: (ms (ks ++ [x])).o :: (X.set a (.cells (V.over cs (s0.length * 3) ((dpOf l x).flatMap Iid.c))) ++ [AObj.cells [iv x.e, iv x.n, iv x.o]]) := by
              rw [List.set_append_right _ _ (by omega), Nat.add_sub_cancel_left]
              simp only [List.set_cons_succ, hgs]
            have hvl : (V.over cs (s0.length * 3) ((dpOf l x).flatMap Iid.c)).length = c * 3 := by rw [over_len (by rw [flc_len]; omega)]; exact hc1
            have hvt : (V.over cs (s0.length * 3) ((dpOf l x).flatMap Iid.c)).take ((s0.length + (dpOf l x).length) * 3) = (s0 ++ dpOf l x).flatMap Iid.c := by
              unfold V.over
              rw [hc6, List.flatMap_append, Nat.add_mul, ← flc_len, ← flc_len, ← List.length_append]
              exact List.take_left' rfl
            rw [hset]
            refine aops_end ?_
            refine zn ?_
            refine goes_done ?_
            simp only [vq, if_true, reduceIte, Nat.reduceEqDiff, reduceCtorEq]
            repeat (first | ((first | refine zd ?_ | refine zx ?_ | refine zk ?_ | refine zl ?_ | refine zr ?_); refine zq ?_) | refine zs ?_ | refine zg ?_ | refine zb ?_ | refine zo ?_ | refine zt ?_ | refine zf ?_)
            refine ⟨(s0 ++ dpOf l x).length + sumL l (ks ++ [x]), by omega, ks ++ [x], s0 ++ dpOf l x, X.set a (.cells (V.over cs (s0.length * 3) ((dpOf l x).flatMap Iid.c))) ++ [.cells [iv x.e, iv x.n, iv x.o]], .arr (h.length + (a + 3)) 0 (s0.length + (dpOf l x).length) c, rfl, by omega, hnew, .inr ⟨a, c, _, by rw [hln], ?_, hvl, by omega, hc3, by rw [hln]; exact hvt⟩, ?_⟩
            · have := (List.getElem?_eq_some_iff.1 ha).1
              rw [List.getElem?_append_left (by simpa using this), List.getElem?_set_self this]
            · exact st_keep' (by simp []) (by simp [])
          · cases h0
          · rw [hml] at hgrow hc' hu ⊢
            rw [flc_cells, hc6]
            refine aops_end ?_
            refine zn ?_
            refine goes_done ?_
            simp only [vq, if_true, reduceIte, Nat.reduceEqDiff, reduceCtorEq]
            repeat (first | ((first | refine zd ?_ | refine zx ?_ | refine zk ?_ | refine zl ?_ | refine zr ?_); refine zq ?_) | refine zs ?_ | refine zg ?_ | refine zb ?_ | refine zo ?_ | refine zt ?_ | refine zf ?_)
            refine ⟨(s0 ++ dpOf l x).length + sumL l (ks ++ [x]), by omega, ks ++ [x], s0 ++ dpOf l x, X ++ [.cells [iv x.e, iv x.n, iv x.o], .cells (s0.flatMap Iid.c ++ (dpOf l x).flatMap Iid.c ++ u)], _, rfl, by omega, hnew, .inr ⟨X.length + 1, c', s0.flatMap Iid.c ++ (dpOf l x).flatMap Iid.c ++ u, by rw [hln], by simp, ?_, by omega, by omega, ?_⟩, ?_⟩
            · simp only [List.length_append, flc_len, hu]; omega
            · rw [hln, ← List.flatMap_append, ← hln, List.take_left' (flc_len _)]
            · exact st_keep' (by simp []) (by simp [])
  · exact ⟨[], dpOf l f, X, sv, rfl, hW, hst, hsa, st_keep' (by simp [MS.o, mapO, ms, putL]) (by simp [MS.o, mapO, ms, putL])⟩
end Go.Proofs.Ytajgeofhlgoifaa.G

/- Graphs: Valid, Reach. -/
set_option linter.unusedVariables false
set_option linter.unusedSimpArgs false
set_option maxRecDepth 20000
namespace Go.Proofs.Ytajgeofhlgoifaa.G
open Go Go.Proofs.Ytajgeofhlgoifaa.V Go.Proofs.Ytajgeofhlgoifaa.I Go.RowKit
@[simp] theorem nod_strip (a : Nod) : (Nod.av a).strip = Nod.av a := by
  have : (a.deps.map Iid.av).map AV.strip = a.deps.map Iid.av := by simp
  simp [Nod.av, Nod.c]
@[simp] theorem nod_s : AV.strip ∘ Nod.av = Nod.av := s_comp nod_strip
theorem keysA_ok (id : Nat) (h : AHeap) : ACalls Try.prog 51 [.map id] h fun r h' => r = .func (.func 69) [] [.ptr h.length 0] ∧ h' = h ++ [.cells [.map id]] := by
  refine acalls_of_awp Try.func51 rfl (by simp only [List.length_cons, List.length_nil]; decide) ?_
  simp only [params_cons, params_nil]
  repeat (first | ((first | refine zd ?_ | refine zx ?_ | refine zk ?_ | refine zl ?_ | refine zr ?_); refine zq ?_) | refine zs ?_ | refine zg ?_ | refine zb ?_ | refine zo ?_ | refine zt ?_ | refine zf ?_)
  first | refine body_all (.inr rfl) (by simp -implicitDefEqProofs; rfl) (by simp -implicitDefEqProofs; rfl) (by first | (simp; done) | (simp; omega) | omega) ?_ | refine body_all (.inl rfl) (by simp -implicitDefEqProofs; rfl) (by simp -implicitDefEqProofs; rfl) (by first | (simp; done) | (simp; omega) | omega) ?_
  simp
theorem keysB_ok (id : Nat) (h : AHeap) : ACalls Try.prog 42 [.map id] h fun r h' => r = .func (.func 62) [] [.ptr h.length 0] ∧ h' = h ++ [.cells [.map id]] := by
  refine acalls_of_awp Try.func42 rfl (by simp only [List.length_cons, List.length_nil]; decide) ?_
  simp only [params_cons, params_nil]
  repeat (first | ((first | refine zd ?_ | refine zx ?_ | refine zk ?_ | refine zl ?_ | refine zr ?_); refine zq ?_) | refine zs ?_ | refine zg ?_ | refine zb ?_ | refine zo ?_ | refine zt ?_ | refine zf ?_)
  first | refine body_all (.inr rfl) (by simp -implicitDefEqProofs; rfl) (by simp -implicitDefEqProofs; rfl) (by first | (simp; done) | (simp; omega) | omega) ?_ | refine body_all (.inl rfl) (by simp -implicitDefEqProofs; rfl) (by simp -implicitDefEqProofs; rfl) (by first | (simp; done) | (simp; omega) | omega) ?_
  simp
theorem valid_ok (l : List Nod) (tl : Tok) (hl : l.length ≤ 100000) (h : AHeap) : ACalls Try.prog 16 [.list (l.map Nod.av) tl] h fun r h' => r = .bool (validB l) ∧ ∃ X, h' = h ++ X := by
  have hof := fun h => of_ok l [] .no .no hl (by simp) h
  simp only [List.map_nil] at hof
  refine acalls_of_awp Try.func16 rfl (by simp only [List.length_cons, List.length_nil]; decide) ?_
  simp only [params_cons, params_nil]
  repeat (first | ((first | refine zd ?_ | refine zx ?_ | refine zk ?_ | refine zl ?_ | refine zr ?_); refine zq ?_) | refine zs ?_ | refine zg ?_ | refine zb ?_ | refine zo ?_ | refine zt ?_ | refine zf ?_)
  refine zp (callable_of Try.func28) _ (hof _) ?_
  rintro _ _ ⟨rfl, a, X, rfl⟩
  refine ze ?_
  repeat (first | ((first | refine zd ?_ | refine zx ?_ | refine zk ?_ | refine zl ?_ | refine zr ?_); refine zq ?_) | refine zs ?_ | refine zg ?_ | refine zb ?_ | refine zo ?_ | refine zt ?_ | refine zf ?_)
  first | refine body_all (.inr rfl) (by simp -implicitDefEqProofs; rfl) (by simp -implicitDefEqProofs; rfl) (by first | (simp; done) | (simp; omega) | omega) ?_ | refine body_all (.inl rfl) (by simp -implicitDefEqProofs; rfl) (by simp -implicitDefEqProofs; rfl) (by first | (simp; done) | (simp; omega) | omega) ?_
  exact ⟨rfl, _, rfl⟩
theorem net_of {h : AHeap} {l : List Nod} {dn : List Iid} {a : AObj} {X : AHeap} : ∀ Y, Net (h ++ (a :: (nodP l).o :: (ms dn).o :: X) ++ Y) l dn (h.length + 1) (h.length + 2) := fun Y => ⟨by simp, by simp⟩
theorem dp_mem {l : List Nod} {k y : Iid} (h : y ∈ dpOf l k) : y ∈ l.flatMap (·.deps) := by
  unfold dpOf at h
  cases hf : findN k l with
  | none => rw [hf] at h; cases h
  | some x =>
    rw [hf] at h
    have h2 : x ∈ l := by simpa using List.mem_of_find?_eq_some hf
    exact List.mem_flatMap.2 ⟨x, h2, h⟩
theorem lead_mem {l : List Nod} {dn : List Iid} {f y : Iid} (h : Lead (dpOf l) dn f y) : y ∈ l.flatMap (·.deps) := by
  cases h with
  | first h => exact dp_mem h
  | next _ _ h => exact dp_mem h
theorem flat_sum (l : List Nod) : (l.flatMap (·.deps)).length = sumL l [] := by
  unfold sumL
  induction l with
  | nil => rfl
  | cons x l ih => simpa using ih
theorem lead_len {l : List Nod} {dn ks : List Iid} {f : Iid} (hn : ks.Nodup) (h : ∀ y ∈ ks, Lead (dpOf l) dn f y) : ks.length ≤ sumL l [] := by
  rw [← flat_sum]
  exact List.Nodup.length_le_of_subset hn fun y hy => lead_mem (h y hy)
theorem lead_ok2 (l : List Nod) (dn : List Iid) (i1 i2 : Nat) (f : Iid) (h : AHeap) (N : Net h l dn i1 i2) (hW : (dpOf l f).length + sumL l [] ≤ 100000) : ACalls Try.prog 43 [.agg [.map i1, .map i2], Iid.av f] h fun r h' =>
    ∃ i ks X, r = .map i ∧ h'[i]? = some (ms ks).o ∧ h' = h ++ X ∧ ks.length ≤ 100000 ∧ ks.Nodup ∧ ∀ y, y ∈ ks ↔ Lead (dpOf l) dn f y :=
  (lead_ok l dn i1 i2 f h N hW).mono fun r h' ⟨h1, a, b, ks, X, h2, h3, h4⟩ => by
    have := lead_len h3 fun y hy => (h4 y).1 hy
    exact ⟨_, ks, _, h1, by rw [h2]; simp, h2, by omega, h3, h4⟩
theorem reach_ok (l : List Nod) (f : Iid) (tl : Tok) (hl : l.length ≤ 100000) (hW : (dpOf l f).length + sumL l [] ≤ 100000) (h : AHeap) : ACalls Try.prog 18 [.list (l.map Nod.av) tl, Iid.av f] h fun r h' => ∃ rs X, r = lv rs ∧ h' = h ++ X ∧ (validB l = false → rs = []) ∧ (validB l = true → Ris rs ∧ ∀ y, y ∈ rs ↔ Lead (dpOf l) [] f y) := by
  have hof := fun h => of_ok l [] .no .no hl (by simp) h
  simp only [List.map_nil] at hof
  have hld := fun i1 i2 h N => lead_ok2 l [] i1 i2 f h N hW
  unfold Iid.av Iid.c at hld ⊢
  refine acalls_of_awp Try.func18 rfl (by simp only [List.length_cons, List.length_nil]; decide) ?_
  simp only [params_cons, params_nil]
  repeat (first | ((first | refine zd ?_ | refine zx ?_ | refine zk ?_ | refine zl ?_ | refine zr ?_); refine zq ?_) | refine zs ?_ | refine zg ?_ | refine zb ?_ | refine zo ?_ | refine zt ?_ | refine zf ?_)
  refine zp (callable_of Try.func28) _ (hof _) ?_
  rintro _ _ ⟨rfl, a, X, rfl⟩
  refine ze ?_
  cases hv : validB l with
  | false =>
    repeat (first | ((first | refine zd ?_ | refine zx ?_ | refine zk ?_ | refine zl ?_ | refine zr ?_); refine zq ?_) | refine zs ?_ | refine zg ?_ | refine zb ?_ | refine zo ?_ | refine zt ?_ | refine zf ?_)
    first | refine body_all (.inr rfl) (by simp -implicitDefEqProofs; rfl) (by simp -implicitDefEqProofs; rfl) (by first | (simp; done) | (simp; omega) | omega) ?_ | refine body_all (.inl rfl) (by simp -implicitDefEqProofs; rfl) (by simp -implicitDefEqProofs; rfl) (by first | (simp; done) | (simp; omega) | omega) ?_
    exact ⟨[], _, rfl, rfl, fun _ => rfl, fun e => by cases e⟩
  | true =>
    repeat (first | ((first | refine zd ?_ | refine zx ?_ | refine zk ?_ | refine zl ?_ | refine zr ?_); refine zq ?_) | refine zs ?_ | refine zg ?_ | refine zb ?_ | refine zo ?_ | refine zt ?_ | refine zf ?_)
    refine goes_call (callable_of Try.func43) _ (hld (h.length + 1 + 1) (h.length + 1 + 2) _ ⟨?_, ?_⟩) ?_
    · rw [List.getElem?_append_right (by omega), show h.length + 1 + 1 - h.length = 2 by omega]; rfl
    · rw [List.getElem?_append_right (by omega), show h.length + 1 + 2 - h.length = 3 by omega]; rfl
    rintro _ H ⟨i3, ks, X3, rfl, hi3, hX3, hkl, hnd, hks⟩
    have hXX : ∃ Z, H = h ++ Z := ⟨_, by rw [hX3, List.append_assoc]⟩
    clear hX3
    obtain ⟨Z, rfl⟩ := hXX
    refine ze ?_
    refine goes_call (callable_of Try.func42) _ (keysB_ok _ _) ?_
    rintro _ _ ⟨rfl, rfl⟩
    refine ze ?_
    refine goes_call (callable_of Try.func41) _ (sortedB_ok (ms ks) (ms_wf ks) i3 (h.length + Z.length) (by have := ms_len ks; omega) (h ++ (Z ++ [.cells [.map i3]])) (by simp) (by rw [← List.append_assoc, List.getElem?_append_left (List.getElem?_eq_some_iff.1 hi3).1]; exact hi3)) ?_
    rintro _ _ ⟨ks2, X, rfl, rfl, hnd2, hks2⟩
    refine goes_eq (by simp -implicitDefEqProofs (disch := (first | omega | (simp; done) | fail)) [if_pos, if_neg, wrap_i64, tmod_pos, tdiv_pos, Int.toNat_add, lv]; rfl) ?_
    repeat (first | ((first | refine zd ?_ | refine zx ?_ | refine zk ?_ | refine zl ?_ | refine zr ?_); refine zq ?_) | refine zs ?_ | refine zg ?_ | refine zb ?_ | refine zo ?_ | refine zt ?_ | refine zf ?_)
    first | refine body_all (.inr rfl) (by simp -implicitDefEqProofs; rfl) (by simp -implicitDefEqProofs; rfl) (by first | (simp; done) | (simp; omega) | omega) ?_ | refine body_all (.inl rfl) (by simp -implicitDefEqProofs; rfl) (by simp -implicitDefEqProofs; rfl) (by first | (simp; done) | (simp; omega) | omega) ?_
    refine ⟨srt ks2, _, rfl, rfl, fun e => (by cases e), fun _ => ⟨srt_ris hnd2, fun y => ?_⟩⟩
    rw [srt_mem, hks2, ← hks, ← ms_mem ks]
    rfl
end Go.Proofs.Ytajgeofhlgoifaa.G

/- Graphs: which can be done. -/
set_option linter.unusedVariables false
set_option linter.unusedSimpArgs false
set_option maxRecDepth 20000
namespace Go.Proofs.Ytajgeofhlgoifaa.G
open Go Go.Proofs.Ytajgeofhlgoifaa.V Go.Proofs.Ytajgeofhlgoifaa.I Go.RowKit
/-- All that one leads to is there, or done. -/
def Full (l : List Nod) (dn : List Iid) (y : Iid) : Prop := ∀ x, Lead (dpOf l) dn y x → x ∈ l.map (·.id) ∨ x ∈ dn
def CanDo (l : List Nod) (dn : List Iid) (y : Iid) : Prop := y ∈ l.map (·.id) ∧ y ∉ dn ∧ Full l dn y
/-- Whose a token is. -/
def TokZ (b : Nat) (Z : AHeap) (e : TypeId) (k : Nat) (t : Tok) : Prop := t = .full ∨ ∃ j, t = .own (b + j) ∧ Z[j]? = some (.tail e k)
theorem TokZ.app {b : Nat} {Z : AHeap} {e : TypeId} {k : Nat} {t : Tok} (h : TokZ b Z e k t) (Y : AHeap) : TokZ b (Z ++ Y) e k t := by
  rcases h with rfl | ⟨j, rfl, hj⟩
  · exact .inl rfl
  · exact .inr ⟨j, rfl, by rw [List.getElem?_append_left (List.getElem?_eq_some_iff.1 hj).1]; exact hj⟩
theorem node_some (l : List Nod) (k : Iid) : (keyAt k (nodP l).1).isSome = decide (k ∈ l.map (·.id)) := by
  have hk := (nod_ok l).ky k
  cases e : keyAt k (nodP l).1 with
  | none =>
    have h1 := keyAt_none.1 e
    have : k ∉ l.map (·.id) := fun h => by
      obtain ⟨p, hp, h2⟩ := List.mem_map.1 (hk.2 h)
      exact h1 p hp h2
    rw [decide_eq_false this]; rfl
  | some j =>
    obtain ⟨hj, h1⟩ := keyAt_some e
    have : k ∈ l.map (·.id) := hk.1 (List.mem_map.2 ⟨_, List.getElem_mem hj, h1⟩)
    rw [decide_eq_true this]; rfl
theorem nbig {n : Nat} (h : n ≤ 100001) : (n + 1) * 24 ≤ 140737488355328 ∧ n ≤ 140737488355327 ∧ (n + 1 + 1) * 24 ≤ 140737488355328 ∧ n + 1 ≤ 140737488355327 := by omega
open Classical in
theorem ready_ok (l : List Nod) (dn : List Iid) (i1 i2 : Nat) (h : AHeap) (N : Net h l dn i1 i2) (hl : l.length ≤ 100000) (hW : ∀ f, (dpOf l f).length + sumL l [] ≤ 100000) : ACalls Try.prog 29 [.agg [.map i1, .map i2]] h fun r h' =>
    ∃ rs X, r = lv rs ∧ h' = h ++ X ∧ Ris rs ∧ ∀ y, y ∈ rs ↔ CanDo l dn y := by
  obtain ⟨ho1, ho2⟩ := N
  have hb1 : ∀ Y : AHeap, (h ++ Y)[i1]? = some (mapO Iid.av (nodP l).1 (nodP l).2) := fun Y => by rw [List.getElem?_append_left (List.getElem?_eq_some_iff.1 ho1).1]; exact ho1
  have hb2 : ∀ Y : AHeap, (h ++ Y)[i2]? = some (mapO Iid.av (ms dn).1 (ms dn).2) := fun Y => by rw [List.getElem?_append_left (List.getElem?_eq_some_iff.1 ho2).1]; exact ho2
  refine acalls_of_awp Try.func29 rfl (by simp only [List.length_cons, List.length_nil]; decide) ?_
  simp only [params_cons, params_nil]
  refine awp_seq ?_
  refine zg ?_
  refine goes_done ?_
  (try simp only [vq, if_true, reduceIte, Nat.reduceEqDiff, reduceCtorEq])
  refine awp_hard (id := h.length) (by simp -implicitDefEqProofs; rfl) ?_
  simp -implicitDefEqProofs only [Slots.melt, AV.melt, Nat.add_left_cancel_iff, Nat.add_eq_left, Nat.left_eq_add, Nat.reduceEqDiff, reduceIte, Nat.succ_ne_self, Nat.one_ne_zero, Nat.zero_ne_one, List.set_append_right, List.set_append_left, Nat.sub_self, Nat.le_refl, Nat.add_sub_cancel_left, Nat.le_add_right, List.set_cons_zero, List.set_cons_succ]
  repeat (first | ((first | refine zd ?_ | refine zx ?_ | refine zk ?_ | refine zl ?_ | refine zr ?_); refine zq ?_) | refine zs ?_ | refine zg ?_ | refine zb ?_ | refine zo ?_ | refine zt ?_ | refine zf ?_)
  refine goes_call (callable_of Try.func51) _ (keysA_ok _ _) ?_
  rintro _ _ ⟨rfl, rfl⟩
  refine ze ?_
  refine goes_call (callable_of Try.func41) _ (sortedA_ok (nodP l) (nod_ok l).wf i1 (h.length + 1) (by have := (nod_ok l).le; omega) _ (by simp) (hb1 _)) ?_
  rintro _ _ ⟨ks, X, rfl, rfl, hnd, hks⟩
  refine goes_eq (by simp -implicitDefEqProofs (disch := (first | omega | (simp; done) | fail)) [if_pos, if_neg, wrap_i64, tmod_pos, tdiv_pos, Int.toNat_add, lv]; rfl) ?_
  refine goes_done ?_
  simp only [vq, if_true, reduceIte, Nat.reduceEqDiff, reduceCtorEq]
  have hris := srt_ris hnd
  have hmem : ∀ y, y ∈ srt ks ↔ y ∈ l.map (·.id) := fun y => by rw [srt_mem, hks, ← (nod_ok l).ky]; rfl
  have hSl : (srt ks).length ≤ l.length := by
    rw [srt_len]
    have := List.Nodup.length_le_of_subset (l₂ := (nodP l).1.map (·.1)) hnd fun k hk => (hks k).1 hk
    have h2 := (nod_ok l).le
    simp at this
    omega
  clear hks
  generalize hS : srt ks = S at *
  obtain ⟨P, hP⟩ : ∃ P : Iid → Bool, ∀ y, P y = true ↔ y ∉ dn ∧ Full l dn y := ⟨fun y => decide (y ∉ dn ∧ Full l dn y), fun y => by simp⟩
  have hld := fun f h N => lead_ok2 l dn i1 i2 f h N (hW f)
  have hu := iid_uni S
  refine awp_block ?_
  refine awp_loop (fun z st => ∃ (i : Nat) (tok : Tok) (Z : AHeap), z = S.length - i ∧ i ≤ S.length ∧ TokZ h.length Z 25 3 tok ∧ st.le ⟨Try.f29.ntmps, [(1, .ref [.map i1, .map i2] 0), (3, .list (((S.take i).filter P).map Iid.av) tok), (12, .list (S.map Iid.av) .no), (13, iv (S.length : Nat)), (14, iv (i : Nat))], h ++ Z⟩) S.length ?_ ?_
  rotate_left
  rintro z st ⟨i, tok, Z, rfl, hi, htz, hle⟩
  · refine awp_le hle ?_
    clear hle
    by_cases h9 : i = S.length
    · subst h9
      have q : ¬ (S.length : Int) < (S.length : Int) := by omega
      rw [List.take_length]
      repeat (first | ((first | refine zd ?_ | refine zx ?_ | refine zk ?_ | refine zl ?_ | refine zr ?_); refine zq ?_) | refine zs ?_ | refine zh (by simp -implicitDefEqProofs (disch := (first | omega | (simp; done) | fail)) [if_pos, if_neg, wrap_i64, tmod_pos, tdiv_pos, Int.toNat_add, q]; rfl) ?_ | refine zb ?_ | refine zo ?_ | refine zt ?_ | refine zf ?_)
      first | refine body_all (.inr rfl) (by simp -implicitDefEqProofs; rfl) (by simp -implicitDefEqProofs; rfl) (by first | (simp; done) | (simp; omega) | omega) ?_ | refine body_all (.inl rfl) (by simp -implicitDefEqProofs; rfl) (by simp -implicitDefEqProofs; rfl) (by first | (simp; done) | (simp; omega) | omega) ?_
      refine ⟨S.filter P, _, rfl, rfl, hris.filter _, fun y => ?_⟩
      rw [List.mem_filter, hmem, hP]
      rfl
    have hlt : i < S.length := by omega
    have q : (i : Int) < (S.length : Int) := by omega
    have hx2 : (S.map Iid.av)[i]? = some (Iid.av S[i]) := by simp [hlt]
    have htk : S.take (i + 1) = S.take i ++ [S[i]] := by rw [List.take_succ_eq_append_getElem hlt]
    have hi1 : i + 1 ≤ S.length := hlt
    have h21 : S.length - (i + 1) < S.length - i := by omega
    have hal : ((S.take i).filter P).length ≤ 100000 := by have := List.length_filter_le P (S.take i); simp at this; omega
    have hflt : (S.take (i + 1)).filter P = (S.take i).filter P ++ [S[i]].filter P := by rw [htk, List.filter_append]
    generalize S[i] = x at *
    generalize (S.take i).filter P = acc at *
    clear hlt htk
    refine awp_seq ?_
    refine zh (by simp -implicitDefEqProofs (disch := (first | omega | (simp; done) | fail)) [if_pos, if_neg, wrap_i64, tmod_pos, tdiv_pos, Int.toNat_add, q]; rfl) ?_
    refine goes_done ?_
    (try simp only [vq, if_true, reduceIte, Nat.reduceEqDiff, reduceCtorEq])
    refine awp_seq ?_
    refine awp_cond_t rfl ?_
    refine awp_skip ?_
    simp only [vq, if_true, reduceIte, Nat.reduceEqDiff, reduceCtorEq]
    refine awp_seq ?_
    refine awp_block ?_
    refine awp_seq ?_
    refine zh (by simp -implicitDefEqProofs (disch := (first | omega | (simp; done) | fail)) [if_pos, if_neg, wrap_i64, tmod_pos, tdiv_pos, Int.toNat_add, hx2, hu, Iid.av, Iid.c]; rfl) ?_
    refine goes_done ?_
    (try simp only [vq, if_true, reduceIte, Nat.reduceEqDiff, reduceCtorEq])
    refine awp_hard (id := h.length + Z.length) (by simp -implicitDefEqProofs; rfl) ?_
    simp -implicitDefEqProofs only [Slots.melt, AV.melt, Nat.add_left_cancel_iff, Nat.add_eq_left, Nat.left_eq_add, Nat.reduceEqDiff, reduceIte, Nat.succ_ne_self, Nat.one_ne_zero, Nat.zero_ne_one, List.set_append_right, List.set_append_left, Nat.sub_self, Nat.le_refl, Nat.add_sub_cancel_left, Nat.le_add_right, List.set_cons_zero, List.set_cons_succ]
    refine awp_seq ?_
    refine awp_seq ?_
    refine awp_region_at 3 rfl rfl ?_
    refine zn ?_
    refine goes_done ?_
    refine aops_look (id := i2) (es := (ms dn).1) (clock := (ms dn).2) (k := x) (z := .bool false) (c := false) iid_key rfl rfl Try.underlying54 zero_bool rfl rfl (by simp [hb2]) ?_
    rw [done_get]
    refine aops_end ?_
    refine zn ?_
    refine goes_done ?_
    simp only [vq, if_true, reduceIte, Nat.reduceEqDiff, reduceCtorEq]
    have hno : P x = false → (S.take (i + 1)).filter P = acc := fun e => by rw [hflt]; simp [e]
    by_cases hx : x ∈ dn
    · simp only [hx, decide_true]
      have hPx : P x = false := by
        cases e : P x with
        | false => rfl
        | true => exact absurd hx ((hP x).1 e).1
      have h2 := hno hPx
      refine awp_cond_t rfl ?_
      repeat (first | ((first | refine zd ?_ | refine zx ?_ | refine zk ?_ | refine zl ?_ | refine zr ?_); refine zq ?_) | refine zs ?_ | refine zg ?_ | refine zb ?_ | refine zo ?_ | refine zt ?_ | refine zf ?_)
      refine ⟨S.length - (i + 1), h21, i + 1, tok, Z ++ [.dead], rfl, hi1, htz.app _, ?_⟩
      rw [h2]
      exact st_keep' (by simp []) (by simp [])
    · simp only [hx, decide_false]
      refine awp_cond_f rfl ?_
      refine awp_skip ?_
      simp only [vq, if_true, reduceIte, Nat.reduceEqDiff, reduceCtorEq]
      refine awp_seq ?_
      refine awp_seq ?_
      refine awp_region_at 3 rfl rfl ?_
      refine zn ?_
      refine goes_call (callable_of Try.func43) _ (hld x _ ⟨hb1 _, hb2 _⟩) ?_
      rintro _ H ⟨i3, ks3, X3, rfl, hi3, hX3, hkl, hnd3, hks3⟩
      obtain ⟨Z2, hZ2, htz2⟩ : ∃ Z2, H = h ++ Z2 ∧ TokZ h.length Z2 25 3 tok := ⟨Z ++ ([.dead] ++ X3), by rw [hX3]; simp, htz.app _⟩
      subst hZ2
      clear hX3 htz
      have hb3 : ∀ Y : AHeap, (h ++ (Z2 ++ Y))[i3]? = some (mapO Iid.av (ms ks3).1 (ms ks3).2) := fun Y => by rw [← List.append_assoc, List.getElem?_append_left (List.getElem?_eq_some_iff.1 hi3).1]; exact hi3
      refine ze ?_
      refine goes_done ?_
      refine aops_range (id := i3) (clock := (ms ks3).2) rfl rfl Try.underlying54 rfl hi3 ?_
      refine aops_end ?_
      refine zn ?_
      refine goes_done ?_
      simp only [vq, if_true, reduceIte, Nat.reduceEqDiff, reduceCtorEq]
      refine awp_block ?_
      have hwf := ms_wf ks3
      refine awp_loop (fun z st => ∃ (ps : Ents Iid) (Y : AHeap), z = ((ms ks3).1.filter fun q => !(ps.map (·.2.2)).contains q.2.2).length ∧ (∀ q ∈ ps, q ∈ (ms ks3).1) ∧ (ps.map (·.2.2)).Nodup ∧ (∀ q ∈ ps, q.1 ∈ l.map (·.id) ∨ q.1 ∈ dn) ∧ st.le ⟨Try.f29.ntmps, [(1, .ref [.map i1, .map i2] 0), (3, .list (acc.map Iid.av) tok), (5, .ref [iv x.e, iv x.n, iv x.o] 0), (12, .list (S.map Iid.av) .no), (13, iv (S.length : Nat)), (14, iv (i : Nat)), (25, .ptr (h.length + Z2.length) 0)], h ++ (Z2 ++ .iter i3 (ms ks3).2 (ms ks3).2 (ps.map (·.2.2)) :: Y)⟩) ((ms ks3).1.filter fun q => !(([] : Ents Iid).map (·.2.2)).contains q.2.2).length ?_ ?_
      rotate_left
      rintro z st ⟨ps, Y, rfl, hps, hpn, hok, hle⟩
      · refine awp_le hle ?_
        clear hle
        have hrid : ∀ Y : AHeap, ∀ o : AObj, (h ++ (Z2 ++ o :: Y))[h.length + Z2.length]? = some o := fun Y o => by
          rw [← List.append_assoc, List.getElem?_append_right (by simp)]; simp
        have hrset : ∀ Y : AHeap, ∀ o o' : AObj, (h ++ (Z2 ++ o :: Y)).set (h.length + Z2.length) o' = h ++ (Z2 ++ o' :: Y) := fun Y o o' => by
          rw [← List.append_assoc, List.set_append_right _ _ (by simp)]; simp
        refine awp_seq ?_
        refine awp_region_at 0 rfl rfl ?_
        refine zn ?_
        refine goes_done ?_
        refine aops_next (id := i3) (rid := h.length + Z2.length) (clock := (ms ks3).2) (since := (ms ks3).2) (last := (ms ks3).2) (seen := ps.map (·.2.2)) (es := (ms ks3).1.map fun q => (Iid.av q.1, q.2.1, q.2.2)) rfl rfl rfl (hrid _ _) (hb3 _) (fun q hq => ?_) (Nat.le_refl _) (fun hall => ?_) (fun p0 hp0 hns => ?_)
        · obtain ⟨e, he, rfl⟩ := List.mem_map.1 hq
          exact hwf.lt e he
        · have hfull : Full l dn x := fun y hy => by
            have h1 := (hks3 y).2 hy
            have h2 := ((col_all hwf hps hpn fun e he => hall _ (List.mem_map.2 ⟨e, he, rfl⟩)).2 y).2 ((ms_mem ks3 y).2 h1)
            obtain ⟨e, he, rfl⟩ := List.mem_map.1 h2
            exact hok e he
          have hPx : P x = true := (hP x).2 ⟨hx, hfull⟩
          have hflt2 : (S.take (i + 1)).filter P = acc ++ [x] := by rw [hflt]; simp [hPx]
          obtain ⟨q6, q7, _⟩ := nbig (n := acc.length) (by omega)
          obtain ⟨Z3, hZ3⟩ : ∃ Z3, Z3 = Z2 ++ .iter i3 (ms ks3).2 (ms ks3).2 (ps.map (·.2.2)) :: Y := ⟨_, rfl⟩
          have htz3 : TokZ h.length Z3 25 3 tok := by rw [hZ3]; exact htz2.app _
          rw [← hZ3]
          have hu2 := iid_uni acc
          refine aops_end ?_
          refine zn ?_
          refine goes_done ?_
          simp only [vq, if_true, reduceIte, Nat.reduceEqDiff, reduceCtorEq]
          rcases htz3 with rfl | ⟨j, rfl, hj⟩
          · repeat (first | ((first | refine zd ?_ | refine zx ?_ | refine zk ?_ | refine zl ?_ | refine zr ?_); refine zq ?_) | refine zs ?_ | refine zh (by simp -implicitDefEqProofs (disch := (first | omega | (simp; done) | fail)) [if_pos, if_neg, wrap_i64, tmod_pos, tdiv_pos, Int.toNat_add, q6, q7, hu2]; rfl) ?_ | refine zb ?_ | refine zo ?_ | refine zt ?_ | refine zf ?_)
            refine ⟨S.length - (i + 1), h21, i + 1, .own (h.length + Z3.length), Z3 ++ [.tail 25 3], rfl, hi1, .inr ⟨_, rfl, by simp⟩, ?_⟩
            rw [hflt2]
            exact st_keep' (by simp [Iid.av, Iid.c]) (by simp [Iid.av, Iid.c])
          · repeat (first | ((first | refine zd ?_ | refine zx ?_ | refine zk ?_ | refine zl ?_ | refine zr ?_); refine zq ?_) | refine zs ?_ | refine zh (by simp -implicitDefEqProofs (disch := (first | omega | (simp; done) | fail)) [if_pos, if_neg, wrap_i64, tmod_pos, tdiv_pos, Int.toNat_add, q6, q7, hu2, hj]; rfl) ?_ | refine zb ?_ | refine zo ?_ | refine zt ?_ | refine zf ?_)
            refine ⟨S.length - (i + 1), h21, i + 1, .own (h.length + Z3.length), Z3.set j .dead ++ [.tail 25 3], rfl, hi1, .inr ⟨_, rfl, by simp⟩, ?_⟩
            rw [hflt2]
            exact st_keep' (by simp [Iid.av, Iid.c]) (by simp [Iid.av, Iid.c])
        · obtain ⟨q, hq, rfl⟩ := List.mem_map.1 hp0
          rw [hrset]
          refine aops_end ?_
          refine zn ?_
          refine goes_done ?_
          simp only [vq, if_true, reduceIte, Nat.reduceEqDiff, reduceCtorEq]
          refine awp_seq ?_
          refine awp_cond_t rfl ?_
          refine awp_skip ?_
          simp only [vq, if_true, reduceIte, Nat.reduceEqDiff, reduceCtorEq]
          refine awp_block ?_
          refine awp_seq ?_
          refine awp_region_at 0 rfl rfl ?_
          refine zn ?_
          refine goes_done ?_
          refine aops_entry (id := i3) (rid := h.length + Z2.length) (clock := (ms ks3).2) (since := (ms ks3).2) (seen := ps.map (·.2.2)) (es := (ms ks3).1.map fun q => (Iid.av q.1, q.2.1, q.2.2)) (p := (Iid.av q.1, q.2.1, q.2.2)) rfl rfl rfl (hrid _ _) (hb3 _) hp0 (by rw [List.map_map]; exact hwf.st) ?_
          refine aops_end ?_
          simp only [Iid.av, Iid.c]
          refine zn ?_
          refine goes_done ?_
          simp only [vq, if_true, reduceIte, Nat.reduceEqDiff, reduceCtorEq]
          refine awp_seq ?_
          refine awp_region_at 3 rfl rfl ?_
          refine zn ?_
          refine goes_done ?_
          refine aops_look (id := i1) (es := (nodP l).1) (clock := (nodP l).2) (k := q.1) (z := zAt) (c := true) iid_key rfl rfl Try.underlying53 zero_attr rfl rfl (hb1 _) ?_
          obtain ⟨t2, ht2⟩ := look_nod l q.1
          rw [ht2, node_some]
          generalize hb : decide (q.1 ∈ l.map (·.id)) = b
          refine aops_end ?_
          refine zn ?_
          refine goes_done ?_
          simp only [vq, if_true, reduceIte, Nat.reduceEqDiff, reduceCtorEq]
          have hns2 : q.2.2 ∉ ps.map (·.2.2) := hns
          have hlt := flt_lt (f := fun e : Iid × AV × Nat => !((ps ++ [q]).map (·.2.2)).contains e.2.2) (g := fun e : Iid × AV × Nat => !(ps.map (·.2.2)).contains e.2.2) (p := q) (fun x hx => by simp at hx ⊢; exact fun a b hab => hx.1 a b hab) (by simpa using hns2) (by simp) hq
          have hps2 : ∀ e ∈ ps ++ [q], e ∈ (ms ks3).1 := fun e he => by
            rcases List.mem_append.1 he with h | h
            · exact hps e h
            · simp at h; rw [h]; exact hq
          have hnd2 : ((ps ++ [q]).map (·.2.2)).Nodup := by
            rw [List.map_append, List.nodup_append]
            refine ⟨hpn, by simp, fun a ha b hb => ?_⟩
            simp at hb
            rw [hb]
            exact fun e => hns2 (e ▸ ha)
          have hst : ps.map (·.2.2) ++ [q.2.2] = (ps ++ [q]).map (·.2.2) := by simp
          have hok2 : (q.1 ∈ l.map (·.id) ∨ q.1 ∈ dn) → ∀ e ∈ ps ++ [q], e.1 ∈ l.map (·.id) ∨ e.1 ∈ dn := fun hq e he => by
            rcases List.mem_append.1 he with h | h
            · exact hok e h
            · simp at h; rw [h]; exact hq
          cases b with
          | true =>
            refine awp_seq ?_
            refine zg ?_
            refine goes_done ?_
            (try simp only [vq, if_true, reduceIte, Nat.reduceEqDiff, reduceCtorEq])
            refine awp_cond_f rfl ?_
            repeat (first | ((first | refine zd ?_ | refine zx ?_ | refine zk ?_ | refine zl ?_ | refine zr ?_); refine zq ?_) | refine zs ?_ | refine zg ?_ | refine zb ?_ | refine zo ?_ | refine zt ?_ | refine zf ?_)
            refine ⟨_, hlt, ps ++ [q], Y ++ [.cells [iv q.1.e, iv q.1.n, iv q.1.o], .cells [iv (sqOf l q.1), .list ((dpOf l q.1).map Iid.av) t2]], rfl, hps2, hnd2, hok2 (.inl (by simpa using hb)), ?_⟩
            rw [← hst]
            exact st_keep' (by simp []) (by simp [])
          | false =>
            refine awp_seq ?_
            refine awp_region_at 6 rfl rfl ?_
            refine zn ?_
            refine goes_done ?_
            refine aops_lookG (id := i2) (es := (ms dn).1) (clock := (ms dn).2) (k := q.1) (z := .bool false) (c := false) iid_key rfl (by rfl) Try.underlying54 zero_bool rfl rfl (hb2 _) ?_
            rw [done_get]
            by_cases hd : q.1 ∈ dn
            · simp only [hd, decide_true]
              refine aops_end ?_
              refine zn ?_
              refine goes_done ?_
              simp only [vq, if_true, reduceIte, Nat.reduceEqDiff, reduceCtorEq]
              refine awp_cond_f rfl ?_
              repeat (first | ((first | refine zd ?_ | refine zx ?_ | refine zk ?_ | refine zl ?_ | refine zr ?_); refine zq ?_) | refine zs ?_ | refine zg ?_ | refine zb ?_ | refine zo ?_ | refine zt ?_ | refine zf ?_)
              refine ⟨_, hlt, ps ++ [q], Y ++ [.cells [iv q.1.e, iv q.1.n, iv q.1.o], .cells [iv (sqOf l q.1), .list ((dpOf l q.1).map Iid.av) t2]], rfl, hps2, hnd2, hok2 (.inr hd), ?_⟩
              rw [← hst]
              exact st_keep' (by simp []) (by simp [])
            · simp only [hd, decide_false]
              refine aops_end ?_
              refine zn ?_
              refine goes_done ?_
              simp only [vq, if_true, reduceIte, Nat.reduceEqDiff, reduceCtorEq]
              refine awp_cond_t rfl ?_
              repeat (first | ((first | refine zd ?_ | refine zx ?_ | refine zk ?_ | refine zl ?_ | refine zr ?_); refine zq ?_) | refine zs ?_ | refine zg ?_ | refine zb ?_ | refine zo ?_ | refine zt ?_ | refine zf ?_)
              have hPx : P x = false := by
                cases e : P x with
                | false => rfl
                | true =>
                  have h1 : q.1 ∈ ks3 := (ms_mem ks3 q.1).1 (List.mem_map.2 ⟨q, hq, rfl⟩)
                  rcases ((hP x).1 e).2 q.1 ((hks3 _).1 h1) with h2 | h2
                  · exact absurd h2 (by simpa using hb)
                  · exact absurd h2 hd
              have h2 := hno hPx
              refine ⟨S.length - (i + 1), h21, i + 1, tok, Z2 ++ (.iter i3 (ms ks3).2 (ms ks3).2 (ps.map (·.2.2) ++ [q.2.2]) :: (Y ++ [.cells [iv q.1.e, iv q.1.n, iv q.1.o], .cells [iv (sqOf l q.1), .list ((dpOf l q.1).map Iid.av) t2]])), rfl, hi1, htz2.app _, ?_⟩
              rw [h2]
              exact st_keep' (by simp []) (by simp [])
      · exact ⟨[], [], rfl, by simp, .nil, by simp, st_keep' (by simp []) (by simp [])⟩
  · exact ⟨0, .full, .dead :: .cells [.map i1] :: X, rfl, by omega, .inl rfl, st_keep' (by simp []) (by simp [])⟩
end Go.Proofs.Ytajgeofhlgoifaa.G

/- Graphs: Ready. -/
set_option linter.unusedVariables false
set_option linter.unusedSimpArgs false
set_option maxRecDepth 20000
namespace Go.Proofs.Ytajgeofhlgoifaa.G
open Go Go.Proofs.Ytajgeofhlgoifaa.V Go.Proofs.Ytajgeofhlgoifaa.I Go.RowKit
theorem readyF_ok (l : List Nod) (dn : List Iid) (tl td : Tok) (hl : l.length ≤ 100000) (hd : dn.length ≤ 100000) (hW : ∀ f, (dpOf l f).length + sumL l [] ≤ 100000) (h : AHeap) : ACalls Try.prog 20 [.list (l.map Nod.av) tl, .list (dn.map Iid.av) td] h fun r h' =>
    ∃ rs X, r = lv rs ∧ h' = h ++ X ∧ (validB l = false → rs = []) ∧ (validB l = true → Ris rs ∧ ∀ y, y ∈ rs ↔ CanDo l dn y) := by
  have hof := fun h => of_ok l dn .no .no hl hd h
  have hrd := fun i1 i2 h N => ready_ok l dn i1 i2 h N hl hW
  refine acalls_of_awp Try.func20 rfl (by simp only [List.length_cons, List.length_nil]; decide) ?_
  simp only [params_cons, params_nil]
  repeat (first | ((first | refine zd ?_ | refine zx ?_ | refine zk ?_ | refine zl ?_ | refine zr ?_); refine zq ?_) | refine zs ?_ | refine zg ?_ | refine zb ?_ | refine zo ?_ | refine zt ?_ | refine zf ?_)
  refine zp (callable_of Try.func28) _ (hof _) ?_
  rintro _ _ ⟨rfl, a, X, rfl⟩
  refine ze ?_
  cases hv : validB l with
  | false =>
    repeat (first | ((first | refine zd ?_ | refine zx ?_ | refine zk ?_ | refine zl ?_ | refine zr ?_); refine zq ?_) | refine zs ?_ | refine zg ?_ | refine zb ?_ | refine zo ?_ | refine zt ?_ | refine zf ?_)
    first | refine body_all (.inr rfl) (by simp -implicitDefEqProofs; rfl) (by simp -implicitDefEqProofs; rfl) (by first | (simp; done) | (simp; omega) | omega) ?_ | refine body_all (.inl rfl) (by simp -implicitDefEqProofs; rfl) (by simp -implicitDefEqProofs; rfl) (by first | (simp; done) | (simp; omega) | omega) ?_
    exact ⟨[], _, rfl, rfl, fun _ => rfl, fun e => by cases e⟩
  | true =>
    repeat (first | ((first | refine zd ?_ | refine zx ?_ | refine zk ?_ | refine zl ?_ | refine zr ?_); refine zq ?_) | refine zs ?_ | refine zg ?_ | refine zb ?_ | refine zo ?_ | refine zt ?_ | refine zf ?_)
    refine goes_call (callable_of Try.func29) _ (hrd (h.length + 1) (h.length + 2) _ ⟨?_, ?_⟩) ?_
    · simp
    · simp
    rintro _ H ⟨rs, X3, rfl, rfl, h1, h2⟩
    refine goes_eq (by simp -implicitDefEqProofs (disch := (first | omega | (simp; done) | fail)) [if_pos, if_neg, wrap_i64, tmod_pos, tdiv_pos, Int.toNat_add, lv]; rfl) ?_
    repeat (first | ((first | refine zd ?_ | refine zx ?_ | refine zk ?_ | refine zl ?_ | refine zr ?_); refine zq ?_) | refine zs ?_ | refine zg ?_ | refine zb ?_ | refine zo ?_ | refine zt ?_ | refine zf ?_)
    first | refine body_all (.inr rfl) (by simp -implicitDefEqProofs; rfl) (by simp -implicitDefEqProofs; rfl) (by first | (simp; done) | (simp; omega) | omega) ?_ | refine body_all (.inl rfl) (by simp -implicitDefEqProofs; rfl) (by simp -implicitDefEqProofs; rfl) (by first | (simp; done) | (simp; omega) | omega) ?_
    exact ⟨rs, _, rfl, rfl, (fun e => by cases e), fun _ => ⟨h1, h2⟩⟩
end Go.Proofs.Ytajgeofhlgoifaa.G
