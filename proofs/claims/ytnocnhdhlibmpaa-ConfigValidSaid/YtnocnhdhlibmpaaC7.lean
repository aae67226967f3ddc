/- Configurations: what another one has is taken out. -/
import Derived.Test.YtnocnhdhlibmpaaC6
set_option linter.unusedVariables false
set_option linter.unusedSimpArgs false
set_option maxRecDepth 20000
namespace Go.Proofs.Ytnocnhdhlibmpaa.C
open Go Go.Proofs.Ytnocnhdhlibmpaa.V
attribute [-simp] List.map_take List.map_drop
attribute [local simp] take_map drop_map List.take_take iv_uni iv_ones iv_onesL iv_strip
def outs (m l : List Int) : List Int := l.filter (fun x => decide (x ∉ m))
theorem ffI_none {m l : List Int} (h : ffI m l = -1) : outs m l = l := by
  unfold ffI at h
  split at h
  · omega
  · rename_i e
    exact List.filter_eq_self.2 fun x hx => by
      have := List.findIdx?_eq_none_iff.1 e x hx
      simpa using this
theorem ffI_some {m l : List Int} (h : ffI m l ≠ -1) : ∃ i : Nat, ffI m l = i ∧ i < l.length ∧ outs m (l.take i) = l.take i ∧ outs m (l.take (i + 1)) = l.take i := by
  unfold ffI at *
  split
  · rename_i i e
    obtain ⟨hi, hx, hb⟩ := List.findIdx?_eq_some_iff_getElem.1 e
    have e1 : outs m (l.take i) = l.take i := List.filter_eq_self.2 fun x hx => by
      obtain ⟨j, hj, rfl⟩ := List.getElem_of_mem hx
      simp only [List.length_take] at hj
      have := hb j (by omega)
      simpa using this
    refine ⟨i, rfl, hi, e1, ?_⟩
    rw [List.take_add_one, List.getElem?_eq_getElem hi]
    unfold outs at *
    rw [List.filter_append, e1]
    simp at hx
    simp [hx]
  · rename_i e
    rw [e] at h
    exact absurd rfl h
theorem delete_ok (l : List Int) (u : List AV) (a c q : Nat) (h : AHeap) (e : Int) (m : List Int) (t : Tok) (haq : a ≠ q) (hl : l.length ≤ 1000000) (hm : m.length ≤ 1000000) (ha : h[a]? = some (.cells (l.map iv ++ u))) (hq : h[q]? = some (.cells [.int .i64 e, .list (m.map iv) t])) :
    ACalls Try.prog 34 [.arr a 0 l.length c, fn q] h fun r h' => ∃ cs, r = .arr a 0 (outs m l).length c ∧ cs.take (outs m l).length = (outs m l).map iv ∧ (outs m l).length ≤ cs.length ∧ h' = h.set a (.cells cs) := by
  refine acalls_of_awp Try.func34 rfl (by simp only [List.length_cons, List.length_nil]; decide) ?_
  simp only [params_cons, params_nil]
  repeat (first | (refine goes_done ?_; (try simp only [then_normal, then_exit, then_ret, block_normal, block_ret, block_exit, scope_normal, scope_ret, scope_exit, if_true, reduceIte, Nat.reduceEqDiff, reduceCtorEq])) | refine awp_seq ?_ | refine awp_region' (run_start (goes_eq (by simp -implicitDefEqProofs (disch := (first | omega | (simp; done) | fail)) [if_pos, if_neg, wrap_i64, tmod_pos, tdiv_pos, Int.toNat_add]; rfl) ?_)) | refine awp_block ?_ | refine awp_scope ?_ | (refine awp_exit ?_; (try simp only [then_normal, then_exit, then_ret, block_normal, block_ret, block_exit, scope_normal, scope_ret, scope_exit, if_true, reduceIte, Nat.reduceEqDiff, reduceCtorEq])) | (refine awp_skip ?_; (try simp only [then_normal, then_exit, then_ret, block_normal, block_ret, block_exit, scope_normal, scope_ret, scope_exit, if_true, reduceIte, Nat.reduceEqDiff, reduceCtorEq])) | (refine awp_label ?_; (try simp only [then_normal, then_exit, then_ret, block_normal, block_ret, block_exit, scope_normal, scope_ret, scope_exit, if_true, reduceIte, Nat.reduceEqDiff, reduceCtorEq])) | (refine awp_ret ?_; (try simp only [then_normal, then_exit, then_ret, block_normal, block_ret, block_exit, scope_normal, scope_ret, scope_exit, if_true, reduceIte, Nat.reduceEqDiff, reduceCtorEq])) | refine awp_cond_t rfl ?_ | refine awp_cond_f rfl ?_)
  refine goes_callS (callable_of Try.func37) (by simp -implicitDefEqProofs (disch := (first | omega | (simp; done) | fail)) [if_pos, if_neg, wrap_i64, tmod_pos, tdiv_pos, Int.toNat_add, fn] <;> first | rfl | omega) _ (indexFunc_ok l u a c q _ e m t hl hm ha hq) ?_
  rintro _ h ⟨rfl, rfl⟩
  by_cases h5 : ffI m l = -1
  · rw [h5]
    refine goes_eq (by simp -implicitDefEqProofs (disch := (first | omega | (simp; done) | fail)) [if_pos, if_neg, wrap_i64, tmod_pos, tdiv_pos, Int.toNat_add]; rfl) ?_
    repeat (first | (refine goes_done ?_; (try simp only [then_normal, then_exit, then_ret, block_normal, block_ret, block_exit, scope_normal, scope_ret, scope_exit, if_true, reduceIte, Nat.reduceEqDiff, reduceCtorEq])) | refine awp_seq ?_ | refine awp_region' (run_start (goes_eq (by simp -implicitDefEqProofs (disch := (first | omega | (simp; done) | fail)) [if_pos, if_neg, wrap_i64, tmod_pos, tdiv_pos, Int.toNat_add]; rfl) ?_)) | refine awp_block ?_ | refine awp_scope ?_ | (refine awp_exit ?_; (try simp only [then_normal, then_exit, then_ret, block_normal, block_ret, block_exit, scope_normal, scope_ret, scope_exit, if_true, reduceIte, Nat.reduceEqDiff, reduceCtorEq])) | (refine awp_skip ?_; (try simp only [then_normal, then_exit, then_ret, block_normal, block_ret, block_exit, scope_normal, scope_ret, scope_exit, if_true, reduceIte, Nat.reduceEqDiff, reduceCtorEq])) | (refine awp_label ?_; (try simp only [then_normal, then_exit, then_ret, block_normal, block_ret, block_exit, scope_normal, scope_ret, scope_exit, if_true, reduceIte, Nat.reduceEqDiff, reduceCtorEq])) | (refine awp_ret ?_; (try simp only [then_normal, then_exit, then_ret, block_normal, block_ret, block_exit, scope_normal, scope_ret, scope_exit, if_true, reduceIte, Nat.reduceEqDiff, reduceCtorEq])) | refine awp_cond_t rfl ?_ | refine awp_cond_f rfl ?_)
    first | refine body_all (.inr rfl) (by simp -implicitDefEqProofs; rfl) (by simp -implicitDefEqProofs; rfl) (by first | (simp; done) | (simp; omega) | omega) ?_ | refine body_all (.inl rfl) (by simp -implicitDefEqProofs; rfl) (by simp -implicitDefEqProofs; rfl) (by first | (simp; done) | (simp; omega) | omega) ?_
    rw [ffI_none h5]
    exact ⟨l.map iv ++ u, by simp, by simp, by simp, (set_same ha).symm⟩
  · have hf5 : (ffI m l == -1) = false := by simpa using h5
    obtain ⟨i0, e0, hi0, e1, e2⟩ := ffI_some h5
    rw [e0] at hf5 ⊢
    unfold fn
    refine goes_eq (by simp -implicitDefEqProofs (disch := (first | omega | (simp; done) | fail)) [if_pos, if_neg, wrap_i64, tmod_pos, tdiv_pos, Int.toNat_add, hf5]; rfl) ?_
    repeat (first | (refine goes_done ?_; (try simp only [then_normal, then_exit, then_ret, block_normal, block_ret, block_exit, scope_normal, scope_ret, scope_exit, if_true, reduceIte, Nat.reduceEqDiff, reduceCtorEq])) | refine awp_seq ?_ | refine awp_region' (run_start (goes_eq (by simp -implicitDefEqProofs (disch := (first | omega | (simp; done) | fail)) [if_pos, if_neg, wrap_i64, tmod_pos, tdiv_pos, Int.toNat_add]; rfl) ?_)) | refine awp_block ?_ | refine awp_scope ?_ | (refine awp_exit ?_; (try simp only [then_normal, then_exit, then_ret, block_normal, block_ret, block_exit, scope_normal, scope_ret, scope_exit, if_true, reduceIte, Nat.reduceEqDiff, reduceCtorEq])) | (refine awp_skip ?_; (try simp only [then_normal, then_exit, then_ret, block_normal, block_ret, block_exit, scope_normal, scope_ret, scope_exit, if_true, reduceIte, Nat.reduceEqDiff, reduceCtorEq])) | (refine awp_label ?_; (try simp only [then_normal, then_exit, then_ret, block_normal, block_ret, block_exit, scope_normal, scope_ret, scope_exit, if_true, reduceIte, Nat.reduceEqDiff, reduceCtorEq])) | (refine awp_ret ?_; (try simp only [then_normal, then_exit, then_ret, block_normal, block_ret, block_exit, scope_normal, scope_ret, scope_exit, if_true, reduceIte, Nat.reduceEqDiff, reduceCtorEq])) | refine awp_cond_t rfl ?_ | refine awp_cond_f rfl ?_)
    refine awp_loop (fun k st => ∃ (i j : Nat) (cs : List AV), k = l.length - j ∧ i < j ∧ j ≤ l.length ∧ cs.length = (l.map iv ++ u).length ∧ i = (outs m (l.take j)).length ∧ cs.take i = (outs m (l.take j)).map iv ∧ cs.drop j = (l.map iv ++ u).drop j ∧
      st.le ⟨Try.f34.ntmps, [(0, .arr a 0 l.length c), (1, .func (.func 35) [] [.ptr q 0]), (5, .int .i64 i), (6, .int .i64 j)], h.set a (.cells cs)⟩) (l.length - (i0 + 1)) ?_ ?_
    rotate_left
    · rintro k st ⟨i, j, cs, rfl, hij, hj, hcl, hie, hct, hcd, hle⟩
      refine awp_le hle ?_
      repeat (first | (refine goes_done ?_; (try simp only [then_normal, then_exit, then_ret, block_normal, block_ret, block_exit, scope_normal, scope_ret, scope_exit, if_true, reduceIte, Nat.reduceEqDiff, reduceCtorEq])) | refine awp_seq ?_ | refine awp_region' (run_start (goes_eq (by simp -implicitDefEqProofs (disch := (first | omega | (simp; done) | fail)) [if_pos, if_neg, wrap_i64, tmod_pos, tdiv_pos, Int.toNat_add]; rfl) ?_)) | refine awp_block ?_ | refine awp_scope ?_ | (refine awp_exit ?_; (try simp only [then_normal, then_exit, then_ret, block_normal, block_ret, block_exit, scope_normal, scope_ret, scope_exit, if_true, reduceIte, Nat.reduceEqDiff, reduceCtorEq])) | (refine awp_skip ?_; (try simp only [then_normal, then_exit, then_ret, block_normal, block_ret, block_exit, scope_normal, scope_ret, scope_exit, if_true, reduceIte, Nat.reduceEqDiff, reduceCtorEq])) | (refine awp_label ?_; (try simp only [then_normal, then_exit, then_ret, block_normal, block_ret, block_exit, scope_normal, scope_ret, scope_exit, if_true, reduceIte, Nat.reduceEqDiff, reduceCtorEq])) | (refine awp_ret ?_; (try simp only [then_normal, then_exit, then_ret, block_normal, block_ret, block_exit, scope_normal, scope_ret, scope_exit, if_true, reduceIte, Nat.reduceEqDiff, reduceCtorEq])) | refine awp_cond_t rfl ?_ | refine awp_cond_f rfl ?_)
      refine awp_cond rfl (fun h2 => ?_) (fun h2 => ?_)
      · simp at h2
        obtain ⟨x, hx⟩ : ∃ x, l[j]? = some x := ⟨l[j]'(by omega), by rw [List.getElem?_eq_getElem]⟩
        have hx2 : cs[j]? = some (.int .i64 x) := by
          have := congrArg (fun z => z[0]?) hcd
          simp only [List.getElem?_drop, Nat.add_zero] at this
          rw [this, List.getElem?_append_left (by simpa using h2), List.getElem?_map, hx]; rfl
        have hj1 : j + 1 ≤ l.length := by omega
        have h21 : l.length - (j + 1) < l.length - j := by omega
        have hj0 : (j : Int) + 1 ≤ 1000001 := by omega
        have hi0 : (i : Int) + 1 ≤ 1000001 := by omega
        have h22 : (j : Int) < (l.length : Int) := by omega
        have h23 : (i : Int) < (l.length : Int) := by omega
        have hil : i < cs.length := by rw [hcl]; simp; omega
        have hal : a < h.length := (List.getElem?_eq_some_iff.1 ha).1
        have hac : (h.set a (.cells cs))[a]? = some (.cells cs) := List.getElem?_set_self hal
        have hqc : (h.set a (.cells cs))[q]? = some (.cells [.int .i64 e, .list (m.map iv) t]) := by rw [List.getElem?_set_ne haq]; exact hq
        have hij1 : i < j + 1 := by omega
        have hij2 : i + 1 < j + 1 := by omega
        have ht1 : l.take (j + 1) = l.take j ++ [x] := by rw [List.take_add_one, hx]; rfl
        have hcd1 : cs.drop (j + 1) = (l.map iv ++ u).drop (j + 1) := by rw [← List.drop_drop, ← List.drop_drop, hcd]
        clear h2
        repeat (first | (refine goes_done ?_; (try simp only [then_normal, then_exit, then_ret, block_normal, block_ret, block_exit, scope_normal, scope_ret, scope_exit, if_true, reduceIte, Nat.reduceEqDiff, reduceCtorEq])) | refine awp_seq ?_ | refine awp_region' (run_start (goes_eq (by simp -implicitDefEqProofs (disch := (first | omega | (simp; done) | fail)) [if_pos, if_neg, wrap_i64, tmod_pos, tdiv_pos, Int.toNat_add, hac, hx2, h22]; rfl) ?_)) | refine awp_block ?_ | refine awp_scope ?_ | (refine awp_exit ?_; (try simp only [then_normal, then_exit, then_ret, block_normal, block_ret, block_exit, scope_normal, scope_ret, scope_exit, if_true, reduceIte, Nat.reduceEqDiff, reduceCtorEq])) | (refine awp_skip ?_; (try simp only [then_normal, then_exit, then_ret, block_normal, block_ret, block_exit, scope_normal, scope_ret, scope_exit, if_true, reduceIte, Nat.reduceEqDiff, reduceCtorEq])) | (refine awp_label ?_; (try simp only [then_normal, then_exit, then_ret, block_normal, block_ret, block_exit, scope_normal, scope_ret, scope_exit, if_true, reduceIte, Nat.reduceEqDiff, reduceCtorEq])) | (refine awp_ret ?_; (try simp only [then_normal, then_exit, then_ret, block_normal, block_ret, block_exit, scope_normal, scope_ret, scope_exit, if_true, reduceIte, Nat.reduceEqDiff, reduceCtorEq])) | refine awp_cond_t rfl ?_ | refine awp_cond_f rfl ?_)
        refine goes_callS (callable_of Try.func35) (by simp -implicitDefEqProofs (disch := (first | omega | (simp; done) | fail)) [if_pos, if_neg, wrap_i64, tmod_pos, tdiv_pos, Int.toNat_add] <;> first | rfl | omega) _ (closure_ok x _ q e m t hm hqc) ?_
        rintro _ h1 ⟨rfl, rfl⟩
        by_cases hxm : x ∈ m
        · have hf : outs m (l.take (j + 1)) = outs m (l.take j) := by
            rw [ht1]; unfold outs; rw [List.filter_append]; simp [hxm]
          refine goes_eq (by simp -implicitDefEqProofs (disch := (first | omega | (simp; done) | fail)) [if_pos, if_neg, wrap_i64, tmod_pos, tdiv_pos, Int.toNat_add, hxm]; rfl) ?_
          repeat (first | (refine goes_done ?_; (try simp only [then_normal, then_exit, then_ret, block_normal, block_ret, block_exit, scope_normal, scope_ret, scope_exit, if_true, reduceIte, Nat.reduceEqDiff, reduceCtorEq])) | refine awp_seq ?_ | refine awp_region' (run_start (goes_eq (by simp -implicitDefEqProofs (disch := (first | omega | (simp; done) | fail)) [if_pos, if_neg, wrap_i64, tmod_pos, tdiv_pos, Int.toNat_add]; rfl) ?_)) | refine awp_block ?_ | refine awp_scope ?_ | (refine awp_exit ?_; (try simp only [then_normal, then_exit, then_ret, block_normal, block_ret, block_exit, scope_normal, scope_ret, scope_exit, if_true, reduceIte, Nat.reduceEqDiff, reduceCtorEq])) | (refine awp_skip ?_; (try simp only [then_normal, then_exit, then_ret, block_normal, block_ret, block_exit, scope_normal, scope_ret, scope_exit, if_true, reduceIte, Nat.reduceEqDiff, reduceCtorEq])) | (refine awp_label ?_; (try simp only [then_normal, then_exit, then_ret, block_normal, block_ret, block_exit, scope_normal, scope_ret, scope_exit, if_true, reduceIte, Nat.reduceEqDiff, reduceCtorEq])) | (refine awp_ret ?_; (try simp only [then_normal, then_exit, then_ret, block_normal, block_ret, block_exit, scope_normal, scope_ret, scope_exit, if_true, reduceIte, Nat.reduceEqDiff, reduceCtorEq])) | refine awp_cond_t rfl ?_ | refine awp_cond_f rfl ?_)
          exact ⟨l.length - (j + 1), h21, i, j + 1, cs, rfl, hij1, hj1, hcl, by rw [hf]; exact hie, by rw [hf]; exact hct, hcd1, st_keep' (by simp []) (by simp [])⟩
        · have hf : outs m (l.take (j + 1)) = outs m (l.take j) ++ [x] := by
            rw [ht1]; unfold outs; rw [List.filter_append]; simp [hxm]
          refine goes_eq (by simp -implicitDefEqProofs (disch := (first | omega | (simp; done) | fail)) [if_pos, if_neg, wrap_i64, tmod_pos, tdiv_pos, Int.toNat_add, hxm]; rfl) ?_
          repeat (first | (refine goes_done ?_; (try simp only [then_normal, then_exit, then_ret, block_normal, block_ret, block_exit, scope_normal, scope_ret, scope_exit, if_true, reduceIte, Nat.reduceEqDiff, reduceCtorEq])) | refine awp_seq ?_ | refine awp_region' (run_start (goes_eq (by simp -implicitDefEqProofs (disch := (first | omega | (simp; done) | fail)) [if_pos, if_neg, wrap_i64, tmod_pos, tdiv_pos, Int.toNat_add, hac, h23]; rfl) ?_)) | refine awp_block ?_ | refine awp_scope ?_ | (refine awp_exit ?_; (try simp only [then_normal, then_exit, then_ret, block_normal, block_ret, block_exit, scope_normal, scope_ret, scope_exit, if_true, reduceIte, Nat.reduceEqDiff, reduceCtorEq])) | (refine awp_skip ?_; (try simp only [then_normal, then_exit, then_ret, block_normal, block_ret, block_exit, scope_normal, scope_ret, scope_exit, if_true, reduceIte, Nat.reduceEqDiff, reduceCtorEq])) | (refine awp_label ?_; (try simp only [then_normal, then_exit, then_ret, block_normal, block_ret, block_exit, scope_normal, scope_ret, scope_exit, if_true, reduceIte, Nat.reduceEqDiff, reduceCtorEq])) | (refine awp_ret ?_; (try simp only [then_normal, then_exit, then_ret, block_normal, block_ret, block_exit, scope_normal, scope_ret, scope_exit, if_true, reduceIte, Nat.reduceEqDiff, reduceCtorEq])) | refine awp_cond_t rfl ?_ | refine awp_cond_f rfl ?_)
          exact ⟨l.length - (j + 1), h21, i + 1, j + 1, cs.take i ++ .int .i64 x :: cs.drop (i + 1), rfl, hij2, hj1, (by rw [← hcl]; simp; omega), by rw [hf]; simp [hie], (by
            rw [hf, List.map_append, ← hct]
            have : (cs.take i).length = i := by simp; omega
            rw [show i + 1 = (cs.take i).length + 1 by omega, List.take_length_add_append]
            rfl), (by
            rw [← hcd1]
            have : (cs.take i).length = i := by simp; omega
            obtain ⟨d, rfl⟩ : ∃ d, j = i + d := ⟨j - i, by omega⟩
            rw [show i + d + 1 = (cs.take i).length + (d + 1) by omega, List.drop_length_add_append, List.drop_succ_cons, List.drop_drop]
            congr 1
            omega), st_keep' (by simp []) (by simp [])⟩
      · simp at h2
        refine awp_exit ?_
        simp only [then_normal, then_exit, then_ret, block_normal, block_ret, block_exit, scope_normal, scope_ret, scope_exit, if_true, reduceIte, Nat.reduceEqDiff, reduceCtorEq]
        obtain rfl : j = l.length := by omega
        refine awp_seq (awp_region_at 3 rfl rfl ?_)
        refine run_start (goes_eq (by simp -implicitDefEqProofs (disch := (first | omega | (simp; done) | fail)) [if_pos, if_neg, wrap_i64, tmod_pos, tdiv_pos, Int.toNat_add]; rfl) ?_)
        refine goes_done ?_
        have hal : a < h.length := (List.getElem?_eq_some_iff.1 ha).1
        have hil : i < cs.length := by rw [hcl]; simp; omega
        refine aops_clear (id := a) (off := i) (m := l.length - i) (c := c - i) (cs := cs) (z := .int .i64 0) (e := 3) rfl rfl Try.underlying22 (by rfl) (by rfl) (by rfl) (by rfl) (by rfl) (List.getElem?_set_self hal) (by rw [hcl]; simp; omega) ?_
        rw [List.set_set]
        refine aops_end ?_
        refine run_start (goes_eq (by simp -implicitDefEqProofs (disch := (first | omega | (simp; done) | fail)) [if_pos, if_neg, wrap_i64, tmod_pos, tdiv_pos, Int.toNat_add]; rfl) ?_)
        refine goes_done ?_
        simp only [then_normal, then_exit, then_ret, block_normal, block_ret, block_exit, scope_normal, scope_ret, scope_exit, if_true, reduceIte, Nat.reduceEqDiff, reduceCtorEq]
        have hi0 : (i : Int) < (l.length : Int) := by omega
        rw [List.take_length] at hie hct
        repeat (first | (refine goes_done ?_; (try simp only [then_normal, then_exit, then_ret, block_normal, block_ret, block_exit, scope_normal, scope_ret, scope_exit, if_true, reduceIte, Nat.reduceEqDiff, reduceCtorEq])) | refine awp_seq ?_ | refine awp_region' (run_start (goes_eq (by simp -implicitDefEqProofs (disch := (first | omega | (simp; done) | fail)) [if_pos, if_neg, wrap_i64, tmod_pos, tdiv_pos, Int.toNat_add, hi0]; rfl) ?_)) | refine awp_block ?_ | refine awp_scope ?_ | (refine awp_exit ?_; (try simp only [then_normal, then_exit, then_ret, block_normal, block_ret, block_exit, scope_normal, scope_ret, scope_exit, if_true, reduceIte, Nat.reduceEqDiff, reduceCtorEq])) | (refine awp_skip ?_; (try simp only [then_normal, then_exit, then_ret, block_normal, block_ret, block_exit, scope_normal, scope_ret, scope_exit, if_true, reduceIte, Nat.reduceEqDiff, reduceCtorEq])) | (refine awp_label ?_; (try simp only [then_normal, then_exit, then_ret, block_normal, block_ret, block_exit, scope_normal, scope_ret, scope_exit, if_true, reduceIte, Nat.reduceEqDiff, reduceCtorEq])) | (refine awp_ret ?_; (try simp only [then_normal, then_exit, then_ret, block_normal, block_ret, block_exit, scope_normal, scope_ret, scope_exit, if_true, reduceIte, Nat.reduceEqDiff, reduceCtorEq])) | refine awp_cond_t rfl ?_ | refine awp_cond_f rfl ?_)
        first | refine body_all (.inr rfl) (by simp -implicitDefEqProofs; rfl) (by simp -implicitDefEqProofs; rfl) (by first | (simp; done) | (simp; omega) | omega) ?_ | refine body_all (.inl rfl) (by simp -implicitDefEqProofs; rfl) (by simp -implicitDefEqProofs; rfl) (by first | (simp; done) | (simp; omega) | omega) ?_
        rw [← hie]
        refine ⟨_, rfl, ?_, ?_, rfl⟩
        · rw [← hct]
          rw [List.take_append_of_le_length (by simp; omega)]
          simp
        · simp; omega
    · exact ⟨i0, i0 + 1, _, rfl, by omega, by omega, rfl, by rw [e2]; simp; omega, (by rw [e2, List.take_append_of_le_length (by simp; omega), List.map_take]), rfl, (by rw [set_same ha]; exact (st_keep' (by simp []) (by simp [])))⟩
theorem indexFunc_nil (q : Nat) (t : Tok) (h : AHeap) :
    ACalls Try.prog 37 [.list [] t, fn q] h fun r h' => r = .int .i64 (-1) ∧ h' = h := by
  unfold fn
  refine acalls_of_awp Try.func37 rfl (by simp only [List.length_cons, List.length_nil]; decide) ?_
  simp only [params_cons, params_nil]
  repeat (first | (refine goes_done ?_; (try simp only [then_normal, then_exit, then_ret, block_normal, block_ret, block_exit, scope_normal, scope_ret, scope_exit, if_true, reduceIte, Nat.reduceEqDiff, reduceCtorEq])) | refine awp_seq ?_ | refine awp_region' (run_start (goes_eq (by simp -implicitDefEqProofs (disch := (first | omega | (simp; done) | fail)) [if_pos, if_neg, wrap_i64, tmod_pos, tdiv_pos, Int.toNat_add]; rfl) ?_)) | refine awp_block ?_ | refine awp_scope ?_ | (refine awp_exit ?_; (try simp only [then_normal, then_exit, then_ret, block_normal, block_ret, block_exit, scope_normal, scope_ret, scope_exit, if_true, reduceIte, Nat.reduceEqDiff, reduceCtorEq])) | (refine awp_skip ?_; (try simp only [then_normal, then_exit, then_ret, block_normal, block_ret, block_exit, scope_normal, scope_ret, scope_exit, if_true, reduceIte, Nat.reduceEqDiff, reduceCtorEq])) | (refine awp_label ?_; (try simp only [then_normal, then_exit, then_ret, block_normal, block_ret, block_exit, scope_normal, scope_ret, scope_exit, if_true, reduceIte, Nat.reduceEqDiff, reduceCtorEq])) | (refine awp_ret ?_; (try simp only [then_normal, then_exit, then_ret, block_normal, block_ret, block_exit, scope_normal, scope_ret, scope_exit, if_true, reduceIte, Nat.reduceEqDiff, reduceCtorEq])) | refine awp_cond_t rfl ?_ | refine awp_cond_f rfl ?_)
  refine awp_loop (fun k st => st.le ⟨Try.f37.ntmps, [(0, .list [] t), (1, .func (.func 35) [] [.ptr q 0]), (7, .int .i64 0), (8, .int .i64 0)], h⟩) 0 ?_ ?_
  rotate_left
  · rintro k st hle
    refine awp_le hle ?_
    repeat (first | (refine goes_done ?_; (try simp only [then_normal, then_exit, then_ret, block_normal, block_ret, block_exit, scope_normal, scope_ret, scope_exit, if_true, reduceIte, Nat.reduceEqDiff, reduceCtorEq])) | refine awp_seq ?_ | refine awp_region' (run_start (goes_eq (by simp -implicitDefEqProofs (disch := (first | omega | (simp; done) | fail)) [if_pos, if_neg, wrap_i64, tmod_pos, tdiv_pos, Int.toNat_add]; rfl) ?_)) | refine awp_block ?_ | refine awp_scope ?_ | (refine awp_exit ?_; (try simp only [then_normal, then_exit, then_ret, block_normal, block_ret, block_exit, scope_normal, scope_ret, scope_exit, if_true, reduceIte, Nat.reduceEqDiff, reduceCtorEq])) | (refine awp_skip ?_; (try simp only [then_normal, then_exit, then_ret, block_normal, block_ret, block_exit, scope_normal, scope_ret, scope_exit, if_true, reduceIte, Nat.reduceEqDiff, reduceCtorEq])) | (refine awp_label ?_; (try simp only [then_normal, then_exit, then_ret, block_normal, block_ret, block_exit, scope_normal, scope_ret, scope_exit, if_true, reduceIte, Nat.reduceEqDiff, reduceCtorEq])) | (refine awp_ret ?_; (try simp only [then_normal, then_exit, then_ret, block_normal, block_ret, block_exit, scope_normal, scope_ret, scope_exit, if_true, reduceIte, Nat.reduceEqDiff, reduceCtorEq])) | refine awp_cond_t rfl ?_ | refine awp_cond_f rfl ?_)
    first | refine body_pure0 (.inr rfl) (by simp -implicitDefEqProofs; rfl) (by simp -implicitDefEqProofs; rfl) (by simp) ?_ | refine body_pure0 (.inl rfl) (by simp -implicitDefEqProofs; rfl) (by simp -implicitDefEqProofs; rfl) (by simp) ?_
    simp
  · exact st_keep' (by simp []) (by simp [])
theorem delete_nil (q : Nat) (t : Tok) (h : AHeap) :
    ACalls Try.prog 34 [.list [] t, fn q] h fun r h' => r = .list [] .no ∧ h' = h := by
  refine acalls_of_awp Try.func34 rfl (by simp only [List.length_cons, List.length_nil]; decide) ?_
  simp only [params_cons, params_nil]
  repeat (first | (refine goes_done ?_; (try simp only [then_normal, then_exit, then_ret, block_normal, block_ret, block_exit, scope_normal, scope_ret, scope_exit, if_true, reduceIte, Nat.reduceEqDiff, reduceCtorEq])) | refine awp_seq ?_ | refine awp_region' (run_start (goes_eq (by simp -implicitDefEqProofs (disch := (first | omega | (simp; done) | fail)) [if_pos, if_neg, wrap_i64, tmod_pos, tdiv_pos, Int.toNat_add]; rfl) ?_)) | refine awp_block ?_ | refine awp_scope ?_ | (refine awp_exit ?_; (try simp only [then_normal, then_exit, then_ret, block_normal, block_ret, block_exit, scope_normal, scope_ret, scope_exit, if_true, reduceIte, Nat.reduceEqDiff, reduceCtorEq])) | (refine awp_skip ?_; (try simp only [then_normal, then_exit, then_ret, block_normal, block_ret, block_exit, scope_normal, scope_ret, scope_exit, if_true, reduceIte, Nat.reduceEqDiff, reduceCtorEq])) | (refine awp_label ?_; (try simp only [then_normal, then_exit, then_ret, block_normal, block_ret, block_exit, scope_normal, scope_ret, scope_exit, if_true, reduceIte, Nat.reduceEqDiff, reduceCtorEq])) | (refine awp_ret ?_; (try simp only [then_normal, then_exit, then_ret, block_normal, block_ret, block_exit, scope_normal, scope_ret, scope_exit, if_true, reduceIte, Nat.reduceEqDiff, reduceCtorEq])) | refine awp_cond_t rfl ?_ | refine awp_cond_f rfl ?_)
  refine goes_callS (callable_of Try.func37) (by simp -implicitDefEqProofs (disch := (first | omega | (simp; done) | fail)) [if_pos, if_neg, wrap_i64, tmod_pos, tdiv_pos, Int.toNat_add, fn] <;> first | rfl | omega) _ (indexFunc_nil q _ _) ?_
  rintro _ h ⟨rfl, rfl⟩
  refine goes_eq (by simp -implicitDefEqProofs (disch := (first | omega | (simp; done) | fail)) [if_pos, if_neg, wrap_i64, tmod_pos, tdiv_pos, Int.toNat_add]; rfl) ?_
  repeat (first | (refine goes_done ?_; (try simp only [then_normal, then_exit, then_ret, block_normal, block_ret, block_exit, scope_normal, scope_ret, scope_exit, if_true, reduceIte, Nat.reduceEqDiff, reduceCtorEq])) | refine awp_seq ?_ | refine awp_region' (run_start (goes_eq (by simp -implicitDefEqProofs (disch := (first | omega | (simp; done) | fail)) [if_pos, if_neg, wrap_i64, tmod_pos, tdiv_pos, Int.toNat_add]; rfl) ?_)) | refine awp_block ?_ | refine awp_scope ?_ | (refine awp_exit ?_; (try simp only [then_normal, then_exit, then_ret, block_normal, block_ret, block_exit, scope_normal, scope_ret, scope_exit, if_true, reduceIte, Nat.reduceEqDiff, reduceCtorEq])) | (refine awp_skip ?_; (try simp only [then_normal, then_exit, then_ret, block_normal, block_ret, block_exit, scope_normal, scope_ret, scope_exit, if_true, reduceIte, Nat.reduceEqDiff, reduceCtorEq])) | (refine awp_label ?_; (try simp only [then_normal, then_exit, then_ret, block_normal, block_ret, block_exit, scope_normal, scope_ret, scope_exit, if_true, reduceIte, Nat.reduceEqDiff, reduceCtorEq])) | (refine awp_ret ?_; (try simp only [then_normal, then_exit, then_ret, block_normal, block_ret, block_exit, scope_normal, scope_ret, scope_exit, if_true, reduceIte, Nat.reduceEqDiff, reduceCtorEq])) | refine awp_cond_t rfl ?_ | refine awp_cond_f rfl ?_)
  first | refine body_pure0 (.inr rfl) (by simp -implicitDefEqProofs; rfl) (by simp -implicitDefEqProofs; rfl) (by simp) ?_ | refine body_pure0 (.inl rfl) (by simp -implicitDefEqProofs; rfl) (by simp -implicitDefEqProofs; rfl) (by simp) ?_
  simp
theorem lacks_ok (e f : Int) (l m : List Int) (hl : l.length ≤ 1000000) (hm : m.length ≤ 1000000) (h : AHeap) : ACalls Try.prog 29 [cv e l, cv f m] h fun r h' => r = .list ((outs m l).map iv) .no ∧ h' = h := by
  unfold cv
  refine acalls_of_awp Try.func29 rfl (by simp only [List.length_cons, List.length_nil]; decide) ?_
  simp only [params_cons, params_nil]
  repeat (first | (refine goes_done ?_; (try simp only [then_normal, then_exit, then_ret, block_normal, block_ret, block_exit, scope_normal, scope_ret, scope_exit, if_true, reduceIte, Nat.reduceEqDiff, reduceCtorEq])) | refine awp_seq ?_ | refine awp_region' (run_start (goes_eq (by simp -implicitDefEqProofs (disch := (first | omega | (simp; done) | fail)) [if_pos, if_neg, wrap_i64, tmod_pos, tdiv_pos, Int.toNat_add]; rfl) ?_)) | refine awp_block ?_ | refine awp_scope ?_ | (refine awp_exit ?_; (try simp only [then_normal, then_exit, then_ret, block_normal, block_ret, block_exit, scope_normal, scope_ret, scope_exit, if_true, reduceIte, Nat.reduceEqDiff, reduceCtorEq])) | (refine awp_skip ?_; (try simp only [then_normal, then_exit, then_ret, block_normal, block_ret, block_exit, scope_normal, scope_ret, scope_exit, if_true, reduceIte, Nat.reduceEqDiff, reduceCtorEq])) | (refine awp_label ?_; (try simp only [then_normal, then_exit, then_ret, block_normal, block_ret, block_exit, scope_normal, scope_ret, scope_exit, if_true, reduceIte, Nat.reduceEqDiff, reduceCtorEq])) | (refine awp_ret ?_; (try simp only [then_normal, then_exit, then_ret, block_normal, block_ret, block_exit, scope_normal, scope_ret, scope_exit, if_true, reduceIte, Nat.reduceEqDiff, reduceCtorEq])) | refine awp_cond_t rfl ?_ | refine awp_cond_f rfl ?_)
  by_cases hne : l = []
  · subst hne
    have hc0 : ∀ h, ACalls Try.prog 28 [.list [] .no] h fun r h' => r = .list [] .no ∧ h' = h := fun h => clone_ok [] .no hl h
    refine goes_eq (by simp -implicitDefEqProofs (disch := (first | omega | (simp; done) | fail)) [if_pos, if_neg, wrap_i64, tmod_pos, tdiv_pos, Int.toNat_add]; rfl) ?_
    refine goes_callS (callable_of Try.func28) (by simp -implicitDefEqProofs (disch := (first | omega | (simp; done) | fail)) [if_pos, if_neg, wrap_i64, tmod_pos, tdiv_pos, Int.toNat_add] <;> first | rfl | omega) _ (hc0 _) ?_
    rintro _ h1 ⟨rfl, rfl⟩
    refine goes_eq (by simp -implicitDefEqProofs (disch := (first | omega | (simp; done) | fail)) [if_pos, if_neg, wrap_i64, tmod_pos, tdiv_pos, Int.toNat_add]; rfl) ?_
    refine goes_callS (callable_of Try.func34) (by simp -implicitDefEqProofs (disch := (first | omega | (simp; done) | fail)) [if_pos, if_neg, wrap_i64, tmod_pos, tdiv_pos, Int.toNat_add, fn] <;> first | rfl | omega) _ (delete_nil (h.length + 1) .no _) ?_
    rintro _ h1 ⟨rfl, rfl⟩
    refine goes_eq (by simp -implicitDefEqProofs (disch := (first | omega | (simp; done) | fail)) [if_pos, if_neg, wrap_i64, tmod_pos, tdiv_pos, Int.toNat_add]; rfl) ?_
    repeat (first | (refine goes_done ?_; (try simp only [then_normal, then_exit, then_ret, block_normal, block_ret, block_exit, scope_normal, scope_ret, scope_exit, if_true, reduceIte, Nat.reduceEqDiff, reduceCtorEq])) | refine awp_seq ?_ | refine awp_region' (run_start (goes_eq (by simp -implicitDefEqProofs (disch := (first | omega | (simp; done) | fail)) [if_pos, if_neg, wrap_i64, tmod_pos, tdiv_pos, Int.toNat_add]; rfl) ?_)) | refine awp_block ?_ | refine awp_scope ?_ | (refine awp_exit ?_; (try simp only [then_normal, then_exit, then_ret, block_normal, block_ret, block_exit, scope_normal, scope_ret, scope_exit, if_true, reduceIte, Nat.reduceEqDiff, reduceCtorEq])) | (refine awp_skip ?_; (try simp only [then_normal, then_exit, then_ret, block_normal, block_ret, block_exit, scope_normal, scope_ret, scope_exit, if_true, reduceIte, Nat.reduceEqDiff, reduceCtorEq])) | (refine awp_label ?_; (try simp only [then_normal, then_exit, then_ret, block_normal, block_ret, block_exit, scope_normal, scope_ret, scope_exit, if_true, reduceIte, Nat.reduceEqDiff, reduceCtorEq])) | (refine awp_ret ?_; (try simp only [then_normal, then_exit, then_ret, block_normal, block_ret, block_exit, scope_normal, scope_ret, scope_exit, if_true, reduceIte, Nat.reduceEqDiff, reduceCtorEq])) | refine awp_cond_t rfl ?_ | refine awp_cond_f rfl ?_)
    first | refine body_pure (.inr rfl) (by simp -implicitDefEqProofs; rfl) (by simp -implicitDefEqProofs; rfl) (by simp) ?_ | refine body_pure (.inl rfl) (by simp -implicitDefEqProofs; rfl) (by simp -implicitDefEqProofs; rfl) (by simp) ?_
    simp [outs]
  · refine goes_callS (callable_of Try.func28) (by simp -implicitDefEqProofs (disch := (first | omega | (simp; done) | fail)) [if_pos, if_neg, wrap_i64, tmod_pos, tdiv_pos, Int.toNat_add] <;> first | rfl | omega) _ (clone_arr l .no hne hl _) ?_
    rintro _ h1 ⟨c, u, hc, rfl, rfl⟩
    refine goes_eq (by simp -implicitDefEqProofs (disch := (first | omega | (simp; done) | fail)) [if_pos, if_neg, wrap_i64, tmod_pos, tdiv_pos, Int.toNat_add]; rfl) ?_
    refine goes_callS (callable_of Try.func34) (by simp -implicitDefEqProofs (disch := (first | omega | (simp; done) | fail)) [if_pos, if_neg, wrap_i64, tmod_pos, tdiv_pos, Int.toNat_add, fn] <;> first | rfl | omega) _ (delete_ok l u (h.length + 2) c (h.length + 1) _ f m .no (by simp) hl hm (by simp) (by simp)) ?_
    rintro _ h1 ⟨cs, rfl, hcs, hk, rfl⟩
    refine goes_eq (by simp -implicitDefEqProofs (disch := (first | omega | (simp; done) | fail)) [if_pos, if_neg, wrap_i64, tmod_pos, tdiv_pos, Int.toNat_add]; rfl) ?_
    refine goes_done ?_
    simp only [then_normal, then_exit, then_ret, block_normal, block_ret, block_exit, scope_normal, scope_ret, scope_exit, if_true, reduceIte, Nat.reduceEqDiff, reduceCtorEq]
    refine awp_fix (id := h.length + 2) (n := (outs m l).length) (c := c) (cs := cs) (xs := (outs m l).map iv) (by simp) hcs (by simp) hk ?_
    generalize (if c = (outs m l).length then Tok.full else Tok.no) = tk
    repeat (first | (refine goes_done ?_; (try simp only [then_normal, then_exit, then_ret, block_normal, block_ret, block_exit, scope_normal, scope_ret, scope_exit, if_true, reduceIte, Nat.reduceEqDiff, reduceCtorEq])) | refine awp_seq ?_ | refine awp_region' (run_start (goes_eq (by simp -implicitDefEqProofs (disch := (first | omega | (simp; done) | fail)) [if_pos, if_neg, wrap_i64, tmod_pos, tdiv_pos, Int.toNat_add]; rfl) ?_)) | refine awp_block ?_ | refine awp_scope ?_ | (refine awp_exit ?_; (try simp only [then_normal, then_exit, then_ret, block_normal, block_ret, block_exit, scope_normal, scope_ret, scope_exit, if_true, reduceIte, Nat.reduceEqDiff, reduceCtorEq])) | (refine awp_skip ?_; (try simp only [then_normal, then_exit, then_ret, block_normal, block_ret, block_exit, scope_normal, scope_ret, scope_exit, if_true, reduceIte, Nat.reduceEqDiff, reduceCtorEq])) | (refine awp_label ?_; (try simp only [then_normal, then_exit, then_ret, block_normal, block_ret, block_exit, scope_normal, scope_ret, scope_exit, if_true, reduceIte, Nat.reduceEqDiff, reduceCtorEq])) | (refine awp_ret ?_; (try simp only [then_normal, then_exit, then_ret, block_normal, block_ret, block_exit, scope_normal, scope_ret, scope_exit, if_true, reduceIte, Nat.reduceEqDiff, reduceCtorEq])) | refine awp_cond_t rfl ?_ | refine awp_cond_f rfl ?_)
    simp [Slots.thaw, AV.thaw]
    rw [show ∀ a b c : AObj, h ++ [a, b, c] = h ++ ([a, b, c] : AHeap) from fun _ _ _ => rfl]
    first | refine body_pure (.inr rfl) (by simp -implicitDefEqProofs; rfl) (by simp -implicitDefEqProofs; rfl) (by simp) ?_ | refine body_pure (.inl rfl) (by simp -implicitDefEqProofs; rfl) (by simp -implicitDefEqProofs; rfl) (by simp) ?_
    simp
end Go.Proofs.Ytnocnhdhlibmpaa.C
