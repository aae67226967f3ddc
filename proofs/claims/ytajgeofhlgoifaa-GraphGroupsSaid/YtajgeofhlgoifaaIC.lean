import Derived.Test.YtajgeofhlgoifaaIB
/- Sets of instances: Less2. -/
set_option linter.unusedVariables false
set_option linter.unusedSimpArgs false
set_option maxRecDepth 20000
namespace Go.Proofs.Ytajgeofhlgoifaa.I
open Go Go.Proofs.Ytajgeofhlgoifaa.V Go.RowKit
def del1 (p : MS) (k : Iid) : MS := (delE k p.1, p.2)
def delL (p : MS) (ks : List Iid) : MS := ks.foldl del1 p
theorem delL_snoc (p : MS) (ks : List Iid) (k : Iid) : delL p (ks ++ [k]) = del1 (delL p ks) k := by simp [delL]
theorem del_all {p : MS} {k : Iid} (h : WF p) (ha : AllT p) : WF (del1 p k) ∧ AllT (del1 p k) ∧ (∀ x, x ∈ keys (del1 p k) ↔ x ∈ keys p ∧ x ≠ k) ∧ (del1 p k).1.length ≤ p.1.length := by
  obtain ⟨es, c⟩ := p
  unfold del1 delE
  cases hk : keyAt k es with
  | none =>
    have hn := keyAt_none.1 hk
    refine ⟨h, ha, fun x => ⟨fun hx => ⟨hx, fun e => ?_⟩, fun hx => hx.1⟩, Nat.le_refl _⟩
    subst e
    obtain ⟨e, he, e2⟩ := List.mem_map.1 hx
    exact hn e he e2
  | some j =>
    obtain ⟨hj, e⟩ := keyAt_some hk
    have hs : (es.eraseIdx j).Sublist es := List.eraseIdx_sublist es j
    refine ⟨⟨(hs.map _).nodup h.st, fun e he => h.lt e (hs.subset he), (hs.map _).nodup h.ky⟩, fun e he => ha e (hs.subset he), fun x => ⟨fun hx => ?_, fun ⟨hx, hne⟩ => ?_⟩, hs.length_le⟩
    · obtain ⟨q, hq, rfl⟩ := List.mem_map.1 hx
      refine ⟨List.mem_map.2 ⟨q, hs.subset hq, rfl⟩, fun e2 => ?_⟩
      obtain ⟨i, hi, hne, e3⟩ := List.mem_eraseIdx_iff_getElem.1 hq
      have hp : List.Pairwise (fun a b : Iid × AV × Nat => a.1 ≠ b.1) es := List.pairwise_map.1 h.ky
      rcases Nat.lt_or_gt_of_ne hne with hlt | hlt
      · exact List.pairwise_iff_getElem.1 hp i j hi hj hlt (by rw [e3, e2, e])
      · exact List.pairwise_iff_getElem.1 hp j i hj hi hlt (by rw [e3, e2, e])
    · obtain ⟨q, hq, rfl⟩ := List.mem_map.1 hx
      obtain ⟨i, hi, rfl⟩ := List.getElem_of_mem hq
      exact List.mem_map.2 ⟨_, List.mem_eraseIdx_iff_getElem.2 ⟨i, hi, fun e2 => hne (by subst e2; exact e), rfl⟩, rfl⟩
theorem delL_all (ks : List Iid) : ∀ {p : MS}, WF p → AllT p → WF (delL p ks) ∧ AllT (delL p ks) ∧ (∀ x, x ∈ keys (delL p ks) ↔ x ∈ keys p ∧ x ∉ ks) ∧ (delL p ks).1.length ≤ p.1.length := by
  induction ks with
  | nil => intro p h ha; simp [delL]; exact ⟨h, ha⟩
  | cons k ks ih =>
    intro p h ha
    obtain ⟨h1, h2, h3, h4⟩ := del_all (k := k) h ha
    obtain ⟨g1, g2, g3, g4⟩ := ih h1 h2
    refine ⟨g1, g2, fun x => (g3 x).trans ?_, Nat.le_trans g4 h4⟩
    rw [h3]
    simp
    exact ⟨fun ⟨⟨a, b⟩, c⟩ => ⟨a, b, c⟩, fun ⟨a, b, c⟩ => ⟨⟨a, b⟩, c⟩⟩
def sub (a b : List Iid) : List Iid := a.filter fun x => !b.contains x
theorem sub_mem (a b : List Iid) (x : Iid) : x ∈ sub a b ↔ x ∈ a ∧ x ∉ b := by simp [sub]
theorem clean_del (a b : List Iid) : clean ((delL (ms a) b).1.map (·.1)) = clean (sub a b) := clean_ext fun x => by
  have := (delL_all b (ms_wf a) (ms_all a)).2.2.1 x
  rw [ms_mem] at this
  rw [sub_mem]
  exact this
end Go.Proofs.Ytajgeofhlgoifaa.I

/- Sets of instances: maps.Equal, Same. -/
set_option linter.unusedVariables false
set_option linter.unusedSimpArgs false
set_option maxRecDepth 20000
namespace Go.Proofs.Ytajgeofhlgoifaa.I
open Go Go.Proofs.Ytajgeofhlgoifaa.V Go.RowKit
def sameB (p q : MS) : Bool := decide (p.1.length = q.1.length) && p.1.all fun e => (keyAt e.1 q.1).isSome
theorem look_true {q : MS} (ha : AllT q) {k : Iid} (h : (keyAt k q.1).isSome = true) : lookE (.bool false) k q.1 = .bool true := by
  unfold lookE
  cases hk : keyAt k q.1 with
  | none => rw [hk] at h; cases h
  | some j =>
    obtain ⟨hj, e⟩ := keyAt_some hk
    simp [hj]
    exact ha _ (List.getElem_mem hj)
theorem zero_bool (g : Ghost) (w : World) : ∃ v, (zeroValue 4).run Try.prog w = .ok v w ∧ VRel g (.bool false) v := ⟨.bool false, Try.zeroValue4 w, .bool _⟩
theorem aops_at {P : Program} {E : Env P} {ops : Array Oper} {l l1 l2 : List Oper} {n : Nat} {s : Slots} {h : AHeap} {K : ASt → Prop} (k0 : Nat) (h1 : l.take k0 = l1) (h2 : l.drop k0 = l2)
    (k : ARun E ops n l1 s h fun s' h' => AOps E ops l2 ⟨n, s', h'⟩ K) : AOps E ops l ⟨n, s, h⟩ K := by
  have := aops_run k
  rwa [← h1, ← h2, List.take_append_drop] at this
theorem equal_ok (p q : MS) (hw : WF p) (hp : AllT p) (hq : AllT q) (hl : p.1.length ≤ 100000) (hlq : q.1.length ≤ 100000) (i1 i2 : Nat) (h : AHeap) (ho : h[i1]? = some p.o) (ho2 : h[i2]? = some q.o) :
    ACalls Try.prog 48 [.map i1, .map i2] h fun r h' => r = .bool (sameB p q) ∧ h' = h := by
  have hol : ∀ y, (h ++ y)[i1]? = some (.map (p.1.map fun q => (Iid.av q.1, q.2.1, q.2.2)) p.2) := fun y => by rw [List.getElem?_append_left (List.getElem?_eq_some_iff.1 ho).1]; exact ho
  have hol2 : ∀ y, (h ++ y)[i2]? = some (mapO Iid.av q.1 q.2) := fun y => by rw [List.getElem?_append_left (List.getElem?_eq_some_iff.1 ho2).1]; exact ho2
  have hol0 := hol []
  have hol20 : (h ++ [])[i2]? = some (.map (q.1.map fun q => (Iid.av q.1, q.2.1, q.2.2)) q.2) := hol2 []
  rw [List.append_nil] at hol0 hol20
  clear ho ho2
  refine acalls_of_awp Try.func48 rfl (by simp only [List.length_cons, List.length_nil]; decide) ?_
  simp only [params_cons, params_nil]
  refine awp_seq ?_
  refine zg ?_
  refine goes_done ?_
  (try simp only [vq, if_true, reduceIte, Nat.reduceEqDiff, reduceCtorEq])
  refine awp_seq ?_
  refine awp_seq ?_
  refine awp_region_at 1 rfl rfl ?_
  refine zn ?_
  refine goes_done ?_
  refine aops_lenm (id := i1) rfl rfl Try.underlying82 rfl hol0 ?_
  refine aops_at 1 rfl rfl ?_
  refine zn ?_
  refine goes_done ?_
  refine aops_lenm (id := i2) rfl rfl Try.underlying82 rfl hol20 ?_
  refine aops_end ?_
  unfold sameB
  by_cases hlen : p.1.length = q.1.length
  case neg =>
    have hb : ((p.1.length : Int) != (q.1.length : Int)) = true := by simp; omega
    refine run_start (goes_eq (by simp -implicitDefEqProofs (disch := (first | omega | (simp; done) | fail)) [if_pos, if_neg, wrap_i64, tmod_pos, tdiv_pos, Int.toNat_add, hb]; rfl) ?_)
    refine goes_done ?_
    simp only [vq, if_true, reduceIte, Nat.reduceEqDiff, reduceCtorEq]
    refine awp_cond_t rfl ?_
    repeat (first | ((first | refine zd ?_ | refine zx ?_ | refine zk ?_ | refine zl ?_ | refine zr ?_); refine zq ?_) | refine zs ?_ | refine zg ?_ | refine zb ?_ | refine zo ?_ | refine zt ?_ | refine zf ?_)
    first | refine zY (.inr rfl) ?_ | refine zY (.inl rfl) ?_
    simp [hlen]
  refine run_start (goes_eq (by simp -implicitDefEqProofs (disch := (first | omega | (simp; done) | fail)) [if_pos, if_neg, wrap_i64, tmod_pos, tdiv_pos, Int.toNat_add, hlen]; rfl) ?_)
  refine goes_done ?_
  simp only [vq, if_true, reduceIte, Nat.reduceEqDiff, reduceCtorEq]
  refine awp_cond_f rfl ?_
  refine awp_skip ?_
  simp only [vq, if_true, reduceIte, Nat.reduceEqDiff, reduceCtorEq]
  refine awp_seq ?_
  refine awp_seq ?_
  refine awp_region_at 1 rfl rfl ?_
  refine zn ?_
  refine goes_done ?_
  refine aops_range (id := i1) (clock := p.2) rfl rfl Try.underlying82 rfl hol0 ?_
  refine aops_end ?_
  refine zn ?_
  refine goes_done ?_
  simp only [vq, if_true, reduceIte, Nat.reduceEqDiff, reduceCtorEq]
  refine awp_block ?_
  refine awp_loop (fun z st => ∃ (ps : Ents Iid) (X : AHeap), z = (p.1.filter fun q => !(ps.map (·.2.2)).contains q.2.2).length ∧ (∀ q ∈ ps, q ∈ p.1) ∧ (∀ e ∈ ps, (keyAt e.1 q.1).isSome = true) ∧ st.le ⟨Try.f48.ntmps, [(1, .map i2), (15, .ptr h.length 0)], h ++ (.iter i1 p.2 p.2 (ps.map (·.2.2)) :: X)⟩) (p.1.filter fun q => !(([] : Ents Iid).map (·.2.2)).contains q.2.2).length ?_ ?_
  rotate_left
  rintro z st ⟨ps, X, rfl, hps, hin, hle⟩
  · refine awp_le hle ?_
    clear hle
    refine awp_seq ?_
    refine awp_region_at 0 rfl rfl ?_
    refine zn ?_
    refine goes_done ?_
    refine aops_next (id := i1) (rid := h.length) (clock := p.2) (since := p.2) (last := p.2) (seen := ps.map (·.2.2)) (es := p.1.map fun q => (Iid.av q.1, q.2.1, q.2.2)) rfl rfl rfl (by simp) (hol _) (fun q hq => ?_) (Nat.le_refl _) (fun hall => ?_) (fun p0 hp0 hns => ?_)
    · obtain ⟨e, he, rfl⟩ := List.mem_map.1 hq
      exact hw.lt e he
    · have hfin : (p.1.all fun e => (keyAt e.1 q.1).isSome) = true := by
        rw [List.all_eq_true]
        intro e he
        obtain ⟨e2, he2, e3⟩ := List.mem_map.1 (hall _ (List.mem_map.2 ⟨e, he, rfl⟩))
        have := hps e2 he2
        have hst : List.Pairwise (fun a b : Iid × AV × Nat => a.2.2 ≠ b.2.2) p.1 := List.pairwise_map.1 hw.st
        have heq : e2 = e := by
          obtain ⟨i, hi, rfl⟩ := List.getElem_of_mem this
          obtain ⟨j, hj, rfl⟩ := List.getElem_of_mem he
          rcases Nat.lt_trichotomy i j with hlt | hlt | hlt
          · exact absurd e3 (List.pairwise_iff_getElem.1 hst i j hi hj hlt)
          · subst hlt; rfl
          · exact absurd e3.symm (List.pairwise_iff_getElem.1 hst j i hj hi hlt)
        rw [← heq]
        exact hin e2 he2
      refine aops_end ?_
      refine zn ?_
      refine goes_done ?_
      simp only [vq, if_true, reduceIte, Nat.reduceEqDiff, reduceCtorEq]
      repeat (first | ((first | refine zd ?_ | refine zx ?_ | refine zk ?_ | refine zl ?_ | refine zr ?_); refine zq ?_) | refine zs ?_ | refine zg ?_ | refine zb ?_ | refine zo ?_ | refine zt ?_ | refine zf ?_)
      first | refine zy (.inr rfl) ?_ | refine zy (.inl rfl) ?_
      simp [hlen, hfin]
    · obtain ⟨e, he, rfl⟩ := List.mem_map.1 hp0
      have het := hp e he
      have hns2 : e.2.2 ∉ ps.map (·.2.2) := hns
      refine aops_end ?_
      refine zn ?_
      refine goes_done ?_
      simp only [vq, if_true, reduceIte, Nat.reduceEqDiff, reduceCtorEq]
      refine awp_seq ?_
      refine awp_cond_t rfl ?_
      refine awp_skip ?_
      simp only [vq, if_true, reduceIte, Nat.reduceEqDiff, reduceCtorEq]
      refine awp_block ?_
      refine awp_seq ?_
      refine awp_region_at 0 rfl rfl ?_
      refine zn ?_
      refine goes_done ?_
      refine aops_entry (id := i1) (rid := h.length) (clock := p.2) (since := p.2) (seen := ps.map (·.2.2)) (es := p.1.map fun q => (Iid.av q.1, q.2.1, q.2.2)) (p := (Iid.av e.1, e.2.1, e.2.2)) rfl rfl rfl (by simp) (hol _) hp0 (by rw [List.map_map]; exact hw.st) ?_
      refine aops_end ?_
      simp only [Iid.av, Iid.c]
      refine zn ?_
      refine goes_done ?_
      simp only [vq, if_true, reduceIte, Nat.reduceEqDiff, reduceCtorEq]
      refine awp_seq ?_
      refine awp_region_at 2 rfl rfl ?_
      refine zn ?_
      refine goes_done ?_
      refine aops_look (id := i2) (es := q.1) (clock := q.2) (k := e.1) (z := .bool false) (c := true) iid_key rfl rfl Try.underlying82 zero_bool rfl rfl (hol2 _) ?_
      refine aops_end ?_
      cases hk : (keyAt e.1 q.1).isSome with
      | false =>
        have hfin : (p.1.all fun e => (keyAt e.1 q.1).isSome) = false := by
          rw [List.all_eq_false]
          exact ⟨e, he, by rw [hk]; simp⟩
        refine zn ?_
        refine goes_done ?_
        simp only [vq, if_true, reduceIte, Nat.reduceEqDiff, reduceCtorEq]
        repeat (first | ((first | refine zd ?_ | refine zx ?_ | refine zk ?_ | refine zl ?_ | refine zr ?_); refine zq ?_) | refine zs ?_ | refine zg ?_ | refine zb ?_ | refine zo ?_ | refine zt ?_ | refine zf ?_)
        first | refine zy (.inr rfl) ?_ | refine zy (.inl rfl) ?_
        simp [hfin]
      | true =>
        rw [look_true hq hk, het]
        refine zn ?_
        refine goes_done ?_
        simp only [vq, if_true, reduceIte, Nat.reduceEqDiff, reduceCtorEq]
        repeat (first | ((first | refine zd ?_ | refine zx ?_ | refine zk ?_ | refine zl ?_ | refine zr ?_); refine zq ?_) | refine zs ?_ | refine zg ?_ | refine zb ?_ | refine zo ?_ | refine zt ?_ | refine zf ?_)
        have hlt := flt_lt (f := fun e2 : Iid × AV × Nat => !((ps ++ [e]).map (·.2.2)).contains e2.2.2) (g := fun e2 : Iid × AV × Nat => !(ps.map (·.2.2)).contains e2.2.2) (p := e) (fun x hx => by simp at hx ⊢; exact fun a b hab => hx.1 a b hab) (by simpa using hns2) (by simp) he
        refine ⟨_, hlt, ps ++ [e], X ++ [.cells [iv e.1.e, iv e.1.n, iv e.1.o]], rfl, fun x hx => ?_, fun x hx => ?_, ?_⟩
        · rcases List.mem_append.1 hx with hx | hx
          · exact hps x hx
          · simp at hx; rw [hx]; exact he
        · rcases List.mem_append.1 hx with hx | hx
          · exact hin x hx
          · simp at hx; rw [hx]; exact hk
        · rw [show (ps ++ [e]).map (·.2.2) = ps.map (·.2.2) ++ [e.2.2] by simp]
          exact st_keep' (by simp []) (by simp [])
  · exact ⟨[], [], rfl, by simp, by simp, st_keep' (by simp []) (by simp [])⟩
end Go.Proofs.Ytajgeofhlgoifaa.I

/- Sets of instances: Same, Has, Valid. -/
set_option linter.unusedVariables false
set_option linter.unusedSimpArgs false
set_option maxRecDepth 20000
namespace Go.Proofs.Ytajgeofhlgoifaa.I
open Go Go.Proofs.Ytajgeofhlgoifaa.V Go.RowKit
theorem nd_len {a b : List Iid} (ha : a.Nodup) (hb : b.Nodup) (h : ∀ x, x ∈ a ↔ x ∈ b) : a.length = b.length :=
  Nat.le_antisymm (List.Nodup.length_le_of_subset ha fun x hx => (h x).1 hx) (List.Nodup.length_le_of_subset hb fun x hx => (h x).2 hx)
theorem key_in (k : Iid) (p : MS) : (keyAt k p.1).isSome = true ↔ k ∈ keys p := by
  cases hk : keyAt k p.1 with
  | none =>
    have := keyAt_none.1 hk
    simp only [Option.isSome_none, Bool.false_eq_true, false_iff]
    intro h
    obtain ⟨e, he, e2⟩ := List.mem_map.1 h
    exact this e he e2
  | some j =>
    obtain ⟨hj, e⟩ := keyAt_some hk
    simp only [Option.isSome_some, true_iff]
    exact List.mem_map.2 ⟨_, List.getElem_mem hj, e⟩
theorem same_iff (a b : List Iid) : sameB (ms a) (ms b) = decide (clean a = clean b) := by
  rw [Bool.eq_iff_iff, decide_eq_true_eq]
  unfold sameB
  rw [Bool.and_eq_true, decide_eq_true_eq, List.all_eq_true]
  have la : (keys (ms a)).length = (ms a).1.length := by simp [keys]
  have lb : (keys (ms b)).length = (ms b).1.length := by simp [keys]
  constructor
  · rintro ⟨h1, h2⟩
    have hs : ∀ x ∈ keys (ms a), x ∈ keys (ms b) := fun x hx => by
      obtain ⟨e, he, rfl⟩ := List.mem_map.1 hx
      exact (key_in _ _).1 (h2 e he)
    refine clean_ext fun x => ?_
    rw [← ms_mem a, ← ms_mem b]
    refine ⟨hs x, fun hx => Classical.byContradiction fun hn => ?_⟩
    have h3 := List.Nodup.length_le_of_subset (l₁ := x :: keys (ms a)) (l₂ := keys (ms b)) (List.nodup_cons.2 ⟨hn, (ms_wf a).ky⟩) fun y hy => by
      rcases List.mem_cons.1 hy with rfl | hy
      · exact hx
      · exact hs y hy
    simp at h3
    omega
  · intro h
    have hm : ∀ x, x ∈ keys (ms a) ↔ x ∈ keys (ms b) := fun x => by rw [ms_mem, ms_mem, ← clean_mem a, h, clean_mem]
    have := nd_len (ms_wf a).ky (ms_wf b).ky hm
    refine ⟨by rw [← la, ← lb]; exact this, fun e he => (key_in _ _).2 ((hm _).1 (List.mem_map.2 ⟨e, he, rfl⟩))⟩
theorem same_ok (a b : List Iid) (t u : Tok) (ha : a.length ≤ 10000) (hb : b.length ≤ 10000) (h : AHeap) : ACalls Try.prog 26 [.list (a.map Iid.av) t, .list (b.map Iid.av) u] h fun r h' => r = .bool (decide (clean a = clean b)) ∧ h' = h := by
  refine acalls_of_awp Try.func26 rfl (by simp only [List.length_cons, List.length_nil]; decide) ?_
  simp only [params_cons, params_nil]
  repeat (first | ((first | refine zd ?_ | refine zx ?_ | refine zk ?_ | refine zl ?_ | refine zr ?_); refine zq ?_) | refine zs ?_ | refine zg ?_ | refine zb ?_ | refine zo ?_ | refine zt ?_ | refine zf ?_)
  refine goes_callS (callable_of Try.func49) (by simp -implicitDefEqProofs (disch := (first | omega | (simp; done) | fail)) [if_pos, if_neg, wrap_i64, tmod_pos, tdiv_pos, Int.toNat_add, lv] <;> first | rfl | omega) _ (of_ok [a] .no (by simp) (by simp; omega) _) ?_
  rintro _ _ ⟨rfl, X, rfl⟩
  rw [show [a].flatten = a by simp]
  refine ze ?_
  refine goes_callS (callable_of Try.func49) (by simp -implicitDefEqProofs (disch := (first | omega | (simp; done) | fail)) [if_pos, if_neg, wrap_i64, tmod_pos, tdiv_pos, Int.toNat_add, lv] <;> first | rfl | omega) _ (of_ok [b] .no (by simp) (by simp; omega) _) ?_
  rintro _ _ ⟨rfl, Y, rfl⟩
  rw [show [b].flatten = b by simp]
  refine ze ?_
  have hma := ms_len a
  have hmb := ms_len b
  refine zp (callable_of Try.func48) _ (equal_ok (ms a) (ms b) (ms_wf a) (ms_all a) (ms_all b) (by omega) (by omega) h.length (h.length + (X.length + 1)) (h ++ (ms a).o :: (X ++ (ms b).o :: Y)) (by simp) (by rw [List.getElem?_append_right (by omega)]; simp)) ?_
  rintro _ _ ⟨rfl, rfl⟩
  rw [same_iff]
  refine ze ?_
  repeat (first | ((first | refine zd ?_ | refine zx ?_ | refine zk ?_ | refine zl ?_ | refine zr ?_); refine zq ?_) | refine zs ?_ | refine zg ?_ | refine zb ?_ | refine zo ?_ | refine zt ?_ | refine zf ?_)
  first | refine zy (.inr rfl) ?_ | refine zy (.inl rfl) ?_
  simp
theorem eqb (a b : Iid) : (a.e == b.e && (a.n == b.n && a.o == b.o)) = decide (a = b) := by
  obtain ⟨a1, a2, a3⟩ := a
  obtain ⟨b1, b2, b3⟩ := b
  rw [Bool.eq_iff_iff]
  simp
theorem neb (a b : Iid) : (a.e != b.e || (a.n != b.n || a.o != b.o)) = !decide (a = b) := by
  rw [← eqb]
  simp [bne, Bool.not_and]
theorem index_ok (l : List Iid) (x : Iid) (t : Tok) (hl : l.length ≤ 100000) (h : AHeap) : ACalls Try.prog 70 [.list (l.map Iid.av) t, Iid.av x] h fun r h' => (∃ z : Int, r = iv z ∧ decide (0 ≤ z) = l.contains x) ∧ h' = h := by
  have hu : uni 3 (l.map Iid.av) = true := uni_map fun _ => rfl
  unfold Iid.av
  rw [show (fun x => AV.agg (Iid.c x)) = Iid.av from rfl]
  unfold Iid.c
  refine acalls_of_awp Try.func70 rfl (by simp only [List.length_cons, List.length_nil]; decide) ?_
  simp only [params_cons, params_nil]
  refine awp_seq ?_
  refine zg ?_
  refine goes_done ?_
  (try simp only [vq, if_true, reduceIte, Nat.reduceEqDiff, reduceCtorEq])
  refine awp_hard (id := h.length) (by simp -implicitDefEqProofs; rfl) ?_
  simp -implicitDefEqProofs only [Slots.melt, AV.melt, Nat.add_left_cancel_iff, Nat.add_eq_left, Nat.left_eq_add, Nat.reduceEqDiff, reduceIte, Nat.succ_ne_self, Nat.one_ne_zero, Nat.zero_ne_one, List.set_append_right, List.set_append_left, Nat.sub_self, Nat.le_refl, Nat.add_sub_cancel_left, Nat.le_add_right, List.set_cons_zero, List.set_cons_succ]
  repeat (first | ((first | refine zd ?_ | refine zx ?_ | refine zk ?_ | refine zl ?_ | refine zr ?_); refine zq ?_) | refine zs ?_ | refine zg ?_ | refine zb ?_ | refine zo ?_ | refine zt ?_ | refine zf ?_)
  refine awp_loop (fun z st => ∃ (j : Nat), z = l.length - j ∧ j ≤ l.length ∧ (∀ y ∈ l.take j, y ≠ x) ∧ st.le ⟨Try.f70.ntmps, [(3, .ref [iv x.e, iv x.n, iv x.o] 0), (6, .list (l.map Iid.av) t), (0, .list (l.map Iid.av) t), (7, iv (l.length : Nat)), (8, iv (j : Nat))], h ++ [.dead]⟩) l.length ?_ ?_
  rotate_left
  rintro z st ⟨j, rfl, hj, hno, hle⟩
  · refine awp_le hle ?_
    clear hle
    by_cases h10 : j = l.length
    · subst h10
      have q5 : ¬ (l.length : Int) < (l.length : Int) := by omega
      rw [List.take_length] at hno
      have hc : l.contains x = false := by simpa using fun hx => hno x hx rfl
      repeat (first | ((first | refine zd ?_ | refine zx ?_ | refine zk ?_ | refine zl ?_ | refine zr ?_); refine zq ?_) | refine zs ?_ | refine zh (by simp -implicitDefEqProofs (disch := (first | omega | (simp; done) | fail)) [if_pos, if_neg, wrap_i64, tmod_pos, tdiv_pos, Int.toNat_add, q5]; rfl) ?_ | refine zb ?_ | refine zo ?_ | refine zt ?_ | refine zf ?_)
      first | refine zy (.inr rfl) ?_ | refine zy (.inl rfl) ?_
      exact ⟨⟨-1, rfl, by rw [hc]; rfl⟩, rfl⟩
    have hlt : j < l.length := by omega
    have q5 : (j : Int) < (l.length : Int) := by omega
    have hx3 : (l.map Iid.av)[j]? = some (Iid.av l[j]) := by simp [hlt]
    have htk2 : l.take (j + 1) = l.take j ++ [l[j]] := List.take_succ_eq_append_getElem hlt
    have hmem : l[j] ∈ l := List.getElem_mem hlt
    generalize l[j] = k at *
    have hlt2 : (j : Int) < 100000 := by omega
    clear hlt
    repeat (first | ((first | refine zd ?_ | refine zx ?_ | refine zk ?_ | refine zl ?_ | refine zr ?_); refine zq ?_) | refine zs ?_ | refine zh (by simp -implicitDefEqProofs (disch := (first | omega | (simp; done) | fail)) [if_pos, if_neg, wrap_i64, tmod_pos, tdiv_pos, Int.toNat_add, q5]; rfl) ?_ | refine zb ?_ | refine zo ?_ | refine zt ?_ | refine zf ?_)
    by_cases hk : x = k
    · subst hk
      have hc : l.contains x = true := by simpa using hmem
      refine awp_draw (.q 0 (.q 1 (.q 2 (.q 3 (.q 4 (.q 5 (.done))))))) (by kernel_rfl) (by kernel_rfl) (tree_start (goesT_eq (by simp -implicitDefEqProofs (disch := (first | omega | (simp; done) | fail)) [if_pos, if_neg, wrap_i64, tmod_pos, tdiv_pos, Int.toNat_add, hx3, hu, Iid.av, Iid.c]; rfl) ?_))
      refine goesT_done ?_
      (try simp only [vq, if_true, reduceIte, Nat.reduceEqDiff, reduceCtorEq])
      repeat (first | ((first | refine zd ?_ | refine zx ?_ | refine zk ?_ | refine zl ?_ | refine zr ?_); refine zq ?_) | refine zs ?_ | refine zg ?_ | refine zb ?_ | refine zo ?_ | refine zt ?_ | refine zf ?_)
      first | refine zy (.inr rfl) ?_ | refine zy (.inl rfl) ?_
      exact ⟨⟨j, rfl, by rw [hc]; simp⟩, rfl⟩
    · have he : (x.e == k.e && (x.n == k.n && x.o == k.o)) = false := by rw [eqb]; simpa using hk
      refine awp_draw (.q 0 (.q 1 (.q 2 (.q 3 (.q 4 (.q 5 (.done))))))) (by kernel_rfl) (by kernel_rfl) (tree_start (goesT_eq (by simp -implicitDefEqProofs (disch := (first | omega | (simp; done) | fail)) [if_pos, if_neg, wrap_i64, tmod_pos, tdiv_pos, Int.toNat_add, hx3, hu, Iid.av, Iid.c]; rfl) ?_))
      refine goesT_done ?_
      (try simp only [vq, if_true, reduceIte, Nat.reduceEqDiff, reduceCtorEq])
      refine awp_cond_f (by simp [he]) ?_
      repeat (first | ((first | refine zd ?_ | refine zx ?_ | refine zk ?_ | refine zl ?_ | refine zr ?_); refine zq ?_) | refine zs ?_ | refine zg ?_ | refine zb ?_ | refine zo ?_ | refine zt ?_ | refine zf ?_)
      refine ⟨l.length - (j + 1), by omega, j + 1, rfl, by omega, fun y hy => ?_, st_keep' (by simp []) (by simp [])⟩
      rw [htk2] at hy
      rcases List.mem_append.1 hy with hy | hy
      · exact hno y hy
      · simp at hy; rw [hy]; exact fun e => hk e.symm
  · exact ⟨0, rfl, by omega, by simp, st_keep' (by simp []) (by simp [])⟩
theorem contains_ok (l : List Iid) (x : Iid) (t : Tok) (hl : l.length ≤ 100000) (h : AHeap) : ACalls Try.prog 57 [.list (l.map Iid.av) t, Iid.av x] h fun r h' => r = .bool (l.contains x) ∧ h' = h := by
  have hi := fun h => index_ok l x .no hl h
  unfold Iid.av at hi ⊢
  rw [show (fun x => AV.agg (Iid.c x)) = Iid.av from rfl] at hi ⊢
  unfold Iid.c at hi ⊢
  refine acalls_of_awp Try.func57 rfl (by simp only [List.length_cons, List.length_nil]; decide) ?_
  simp only [params_cons, params_nil]
  repeat (first | ((first | refine zd ?_ | refine zx ?_ | refine zk ?_ | refine zl ?_ | refine zr ?_); refine zq ?_) | refine zs ?_ | refine zg ?_ | refine zb ?_ | refine zo ?_ | refine zt ?_ | refine zf ?_)
  refine zp (callable_of Try.func70) _ (hi _) ?_
  rintro _ _ ⟨⟨z, rfl, hz⟩, rfl⟩
  refine ze ?_
  rw [hz]
  repeat (first | ((first | refine zd ?_ | refine zx ?_ | refine zk ?_ | refine zl ?_ | refine zr ?_); refine zq ?_) | refine zs ?_ | refine zg ?_ | refine zb ?_ | refine zo ?_ | refine zt ?_ | refine zf ?_)
  first | refine zy (.inr rfl) ?_ | refine zy (.inl rfl) ?_
  simp
def within (n m : Int) : Bool := decide (0 ≤ n ∧ n ≤ m)
def validB (x : Iid) : Bool := within x.e 1048576 && (within x.n 31 && within x.o 1099511627776)
end Go.Proofs.Ytajgeofhlgoifaa.I
