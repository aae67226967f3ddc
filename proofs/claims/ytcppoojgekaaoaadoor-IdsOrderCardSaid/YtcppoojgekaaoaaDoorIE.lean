import Derived.Test.YtcppoojgekaaoaaDoorID
/- Sets of instances: the document's answers: Less, Has, put. -/
set_option linter.unusedVariables false
set_option linter.unusedSimpArgs false
set_option maxRecDepth 20000
namespace Go.Proofs.YtcppoojgekaaoaaDoor.I
open Go Go.Proofs.YtcppoojgekaaoaaDoor.V Go.RowKit
theorem av_uni (l : List Iid) : uni 3 (l.map Iid.av) = true := uni_map fun _ => rfl
attribute [local simp] av_uni
theorem rless_ok (a b : Iid) (h : AHeap) : ACalls Tryd.prog 10 [Iid.av a, Iid.av b] h fun r h' => r = .bool (lessB a b) ∧ h' = h := by
  unfold Iid.av Iid.c
  refine acalls_of_awp Tryd.func10 rfl (by simp only [List.length_cons, List.length_nil]; decide) ?_
  simp only [params_cons, params_nil]
  refine awp_seq ?_
  refine zg ?_
  refine goes_done ?_
  (try simp only [vq, if_true, reduceIte, Nat.reduceEqDiff, reduceCtorEq])
  refine awp_hard (id := h.length) (by simp -implicitDefEqProofs; rfl) ?_
  simp -implicitDefEqProofs only [Slots.melt, AV.melt, Nat.add_left_cancel_iff, Nat.add_eq_left, Nat.left_eq_add, Nat.reduceEqDiff, reduceIte, Nat.succ_ne_self, Nat.one_ne_zero, Nat.zero_ne_one, List.set_append_right, List.set_append_left, Nat.sub_self, Nat.le_refl, Nat.add_sub_cancel_left, Nat.le_add_right, List.set_cons_zero, List.set_cons_succ]
  refine awp_hard (id := h.length + 1) (by simp -implicitDefEqProofs; rfl) ?_
  simp -implicitDefEqProofs only [Slots.melt, AV.melt, Nat.add_left_cancel_iff, Nat.add_eq_left, Nat.left_eq_add, Nat.reduceEqDiff, reduceIte, Nat.succ_ne_self, Nat.one_ne_zero, Nat.zero_ne_one, List.set_append_right, List.set_append_left, Nat.sub_self, Nat.le_refl, Nat.add_sub_cancel_left, Nat.le_add_right, List.set_cons_zero, List.set_cons_succ]
  by_cases h1 : a.e = b.e
  · have h1' : (a.e != b.e) = false := by simpa using h1
    by_cases h2 : a.o = b.o
    · have h2' : (a.o != b.o) = false := by simpa using h2
      repeat (first | ((first | refine zd ?_ | refine zx ?_ | refine zk ?_ | refine zl ?_ | refine zr ?_); refine zq ?_) | refine zs ?_ | refine zh (by simp -implicitDefEqProofs (disch := (first | omega | (simp; done) | fail)) [if_pos, if_neg, wrap_i64, tmod_pos, tdiv_pos, Int.toNat_add, h1', h2']; rfl) ?_ | refine zb ?_ | refine zo ?_ | refine zt ?_ | refine zf ?_)
      first | refine zy (.inr rfl) ?_ | refine zy (.inl rfl) ?_
      simp [lessB, h1, h2]
    · have h2' : (a.o != b.o) = true := by simpa using h2
      repeat (first | ((first | refine zd ?_ | refine zx ?_ | refine zk ?_ | refine zl ?_ | refine zr ?_); refine zq ?_) | refine zs ?_ | refine zh (by simp -implicitDefEqProofs (disch := (first | omega | (simp; done) | fail)) [if_pos, if_neg, wrap_i64, tmod_pos, tdiv_pos, Int.toNat_add, h1', h2']; rfl) ?_ | refine zb ?_ | refine zo ?_ | refine zt ?_ | refine zf ?_)
      first | refine zy (.inr rfl) ?_ | refine zy (.inl rfl) ?_
      simp [lessB, h1, h2]
  · have h1' : (a.e != b.e) = true := by simpa using h1
    repeat (first | ((first | refine zd ?_ | refine zx ?_ | refine zk ?_ | refine zl ?_ | refine zr ?_); refine zq ?_) | refine zs ?_ | refine zh (by simp -implicitDefEqProofs (disch := (first | omega | (simp; done) | fail)) [if_pos, if_neg, wrap_i64, tmod_pos, tdiv_pos, Int.toNat_add, h1']; rfl) ?_ | refine zb ?_ | refine zo ?_ | refine zt ?_ | refine zf ?_)
    first | refine zy (.inr rfl) ?_ | refine zy (.inl rfl) ?_
    simp [lessB, h1]
theorem rhas_ok (l : List Iid) (x : Iid) (t : Tok) (hl : l.length ≤ 100000) (h : AHeap) : ACalls Tryd.prog 18 [.list (l.map Iid.av) t, Iid.av x] h fun r h' => r = .bool (l.contains x) ∧ h' = h := by
  have hu : uni 3 (l.map Iid.av) = true := uni_map fun _ => rfl
  unfold Iid.av
  rw [show (fun x => AV.agg (Iid.c x)) = Iid.av from rfl]
  unfold Iid.c
  refine acalls_of_awp Tryd.func18 rfl (by simp only [List.length_cons, List.length_nil]; decide) ?_
  simp only [params_cons, params_nil]
  refine awp_seq ?_
  refine zg ?_
  refine goes_done ?_
  (try simp only [vq, if_true, reduceIte, Nat.reduceEqDiff, reduceCtorEq])
  refine awp_hard (id := h.length) (by simp -implicitDefEqProofs; rfl) ?_
  simp -implicitDefEqProofs only [Slots.melt, AV.melt, Nat.add_left_cancel_iff, Nat.add_eq_left, Nat.left_eq_add, Nat.reduceEqDiff, reduceIte, Nat.succ_ne_self, Nat.one_ne_zero, Nat.zero_ne_one, List.set_append_right, List.set_append_left, Nat.sub_self, Nat.le_refl, Nat.add_sub_cancel_left, Nat.le_add_right, List.set_cons_zero, List.set_cons_succ]
  repeat (first | ((first | refine zd ?_ | refine zx ?_ | refine zk ?_ | refine zl ?_ | refine zr ?_); refine zq ?_) | refine zs ?_ | refine zg ?_ | refine zb ?_ | refine zo ?_ | refine zt ?_ | refine zf ?_)
  refine awp_loop (fun z st => ∃ (j : Nat), z = l.length - j ∧ j ≤ l.length ∧ (∀ y ∈ l.take j, y ≠ x) ∧ st.le ⟨Tryd.f18.ntmps, [(3, .ref [iv x.e, iv x.n, iv x.o] 0), (0, .list (l.map Iid.av) t), (5, iv (j : Nat))], h ++ [.dead]⟩) l.length ?_ ?_
  rotate_left
  rintro z st ⟨j, rfl, hj, hno, hle⟩
  · refine awp_le hle ?_
    clear hle
    by_cases h10 : j = l.length
    · subst h10
      have q5 : ¬ (l.length : Int) < (l.length : Int) := by omega
      rw [List.take_length] at hno
      have hc : l.contains x = false := by simpa using fun hx => hno x hx rfl
      repeat (first | ((first | refine zd ?_ | refine zx ?_ | refine zk ?_ | refine zl ?_ | refine zr ?_); refine zq ?_) | refine zs ?_ | refine zh (by simp -implicitDefEqProofs (disch := (first | omega | (simp; done) | fail)) [if_pos, if_neg, wrap_i64, tmod_pos, tdiv_pos, Int.toNat_add, q5]; rfl) ?_ | refine zb ?_ | refine zo ?_ | refine zt ?_ | refine zf ?_)
      first | refine zy (.inr rfl) ?_ | refine zy (.inl rfl) ?_
      rw [hc]
      simp
    have hlt : j < l.length := by omega
    have q5 : (j : Int) < (l.length : Int) := by omega
    have hx3 : (l.map Iid.av)[j]? = some (Iid.av l[j]) := by simp [hlt]
    have htk2 : l.take (j + 1) = l.take j ++ [l[j]] := List.take_succ_eq_append_getElem hlt
    have hmem : l[j] ∈ l := List.getElem_mem hlt
    generalize l[j] = k at *
    have hlt2 : (j : Int) < 100000 := by omega
    clear hlt
    repeat (first | ((first | refine zd ?_ | refine zx ?_ | refine zk ?_ | refine zl ?_ | refine zr ?_); refine zq ?_) | refine zs ?_ | refine zh (by simp -implicitDefEqProofs (disch := (first | omega | (simp; done) | fail)) [if_pos, if_neg, wrap_i64, tmod_pos, tdiv_pos, Int.toNat_add, q5]; rfl) ?_ | refine zb ?_ | refine zo ?_ | refine zt ?_ | refine zf ?_)
    by_cases hk : k = x
    · subst hk
      have hc : l.contains k = true := by simpa using hmem
      refine awp_draw (.q 0 (.q 1 (.q 2 (.q 3 (.q 4 (.q 5 (.done))))))) (by kernel_rfl) (by kernel_rfl) (tree_start (goesT_eq (by simp -implicitDefEqProofs (disch := (first | omega | (simp; done) | fail)) [if_pos, if_neg, wrap_i64, tmod_pos, tdiv_pos, Int.toNat_add, hx3, hu, Iid.av, Iid.c]; rfl) ?_))
      refine goesT_done ?_
      (try simp only [vq, if_true, reduceIte, Nat.reduceEqDiff, reduceCtorEq])
      repeat (first | ((first | refine zd ?_ | refine zx ?_ | refine zk ?_ | refine zl ?_ | refine zr ?_); refine zq ?_) | refine zs ?_ | refine zg ?_ | refine zb ?_ | refine zo ?_ | refine zt ?_ | refine zf ?_)
      first | refine zy (.inr rfl) ?_ | refine zy (.inl rfl) ?_
      rw [hc]
      simp
    · have he : (k.e == x.e && (k.n == x.n && k.o == x.o)) = false := by rw [eqb]; simpa using hk
      refine awp_draw (.q 0 (.q 1 (.q 2 (.q 3 (.q 4 (.q 5 (.done))))))) (by kernel_rfl) (by kernel_rfl) (tree_start (goesT_eq (by simp -implicitDefEqProofs (disch := (first | omega | (simp; done) | fail)) [if_pos, if_neg, wrap_i64, tmod_pos, tdiv_pos, Int.toNat_add, hx3, hu, Iid.av, Iid.c]; rfl) ?_))
      refine goesT_done ?_
      (try simp only [vq, if_true, reduceIte, Nat.reduceEqDiff, reduceCtorEq])
      refine awp_cond_f (by simp [he]) ?_
      repeat (first | ((first | refine zd ?_ | refine zx ?_ | refine zk ?_ | refine zl ?_ | refine zr ?_); refine zq ?_) | refine zs ?_ | refine zg ?_ | refine zb ?_ | refine zo ?_ | refine zt ?_ | refine zf ?_)
      refine ⟨l.length - (j + 1), by omega, j + 1, rfl, by omega, fun y hy => ?_, st_keep' (by simp []) (by simp [])⟩
      rw [htk2] at hy
      rcases List.mem_append.1 hy with hy | hy
      · exact hno y hy
      · simp at hy; rw [hy]; exact hk
  · exact ⟨0, rfl, by omega, by simp, st_keep' (by simp []) (by simp [])⟩
/-- Ahead of the first that comes later. -/
def insR : List Iid → Iid → List Iid
  | [], x => [x]
  | y :: l, x => if lessB x y then x :: y :: l else y :: insR l x
theorem insR_put (l : List Iid) (x : Iid) (h : x ∉ l) : insR l x = putS l x := by
  induction l with
  | nil => rfl
  | cons y l ih =>
    have h1 : ¬ x = y := fun e => h (by rw [e]; simp)
    have h2 : x ∉ l := fun e => h (by simp [e])
    unfold insR putS
    rw [if_neg h1, ih h2]
theorem putS_in {l : List Iid} {x : Iid} (hr : Ris l) (h : x ∈ l) : putS l x = l := by
  induction l with
  | nil => cases h
  | cons y l ih =>
    obtain ⟨h1, h2⟩ := List.pairwise_cons.1 hr
    unfold putS
    split
    · rfl
    · rename_i hne
      have hx : x ∈ l := by
        rcases List.mem_cons.1 h with e | e
        · exact absurd e hne
        · exact e
      have h3 := h1 x hx
      have h4 : ¬ lessB x y = true := by simp [lessB] at h3 ⊢; omega
      rw [if_neg h4, ih h2 hx]
theorem insR_at {l : List Iid} {x : Iid} : ∀ {j : Nat}, j ≤ l.length → (∀ y ∈ l.take j, lessB x y = false) → insR l x = l.take j ++ insR (l.drop j) x := by
  induction l with
  | nil => intro j hj _; simp
  | cons y l ih =>
    intro j hj hno
    cases j with
    | zero => simp
    | succ j =>
      have h1 : lessB x y = false := hno y (by simp)
      rw [insR, if_neg (by simp [h1]), ih (by simpa using hj) fun z hz => hno z (by simp [hz])]
      simp
theorem nbig {n : Nat} (h : n ≤ 100001) : (n + 1) * 24 ≤ 140737488355328 ∧ n ≤ 140737488355327 ∧ (n + 1 + 1) * 24 ≤ 140737488355328 ∧ n + 1 ≤ 140737488355327 := by omega
set_option maxHeartbeats 2000000 in
theorem rput_ok (l : List Iid) (x : Iid) (t : Tok) (hl : l.length ≤ 100000) (hr : Ris l) (h : AHeap) : ACalls Tryd.prog 34 [.list (l.map Iid.av) t, Iid.av x] h fun r h' => r = lv (putS l x) ∧ h' = h := by
  have hu : uni 3 (l.map Iid.av) = true := uni_map fun _ => rfl
  have hhas := fun h => rhas_ok l x .no hl h
  have hless := fun y h => rless_ok x y h
  unfold Iid.av at hhas hless ⊢
  rw [show (fun x => AV.agg (Iid.c x)) = Iid.av from rfl] at hhas ⊢
  unfold Iid.c at hhas hless ⊢
  refine acalls_of_awp Tryd.func34 rfl (by simp only [List.length_cons, List.length_nil]; decide) ?_
  simp only [params_cons, params_nil]
  refine awp_seq ?_
  refine zg ?_
  refine goes_done ?_
  (try simp only [vq, if_true, reduceIte, Nat.reduceEqDiff, reduceCtorEq])
  refine awp_hard (id := h.length) (by simp -implicitDefEqProofs; rfl) ?_
  simp -implicitDefEqProofs only [Slots.melt, AV.melt, Nat.add_left_cancel_iff, Nat.add_eq_left, Nat.left_eq_add, Nat.reduceEqDiff, reduceIte, Nat.succ_ne_self, Nat.one_ne_zero, Nat.zero_ne_one, List.set_append_right, List.set_append_left, Nat.sub_self, Nat.le_refl, Nat.add_sub_cancel_left, Nat.le_add_right, List.set_cons_zero, List.set_cons_succ]
  repeat (first | ((first | refine zd ?_ | refine zx ?_ | refine zk ?_ | refine zl ?_ | refine zr ?_); refine zq ?_) | refine zs ?_ | refine zg ?_ | refine zb ?_ | refine zo ?_ | refine zt ?_ | refine zf ?_)
  refine zp (callable_of Tryd.func18) _ (hhas _) ?_
  rintro _ _ ⟨rfl, rfl⟩
  by_cases hin : x ∈ l
  · have hc : l.contains x = true := by simpa using hin
    rw [hc, putS_in hr hin]
    refine ze ?_
    repeat (first | ((first | refine zd ?_ | refine zx ?_ | refine zk ?_ | refine zl ?_ | refine zr ?_); refine zq ?_) | refine zs ?_ | refine zg ?_ | refine zb ?_ | refine zo ?_ | refine zt ?_ | refine zf ?_)
    first | refine zy (.inr rfl) ?_ | refine zy (.inl rfl) ?_
    simp [lv]
  have hc : l.contains x = false := by simpa using hin
  rw [hc, ← insR_put l x hin]
  refine ze ?_
  repeat (first | ((first | refine zd ?_ | refine zx ?_ | refine zk ?_ | refine zl ?_ | refine zr ?_); refine zq ?_) | refine zs ?_ | refine zg ?_ | refine zb ?_ | refine zo ?_ | refine zt ?_ | refine zf ?_)
  refine awp_loop (fun z st => ∃ (j : Nat) (done : Bool) (acc : List Iid) (tok : Tok) (X : AHeap), z = l.length - j ∧ j ≤ l.length ∧ acc.length ≤ j + done.toNat ∧ acc ++ (if done then l.drop j else insR (l.drop j) x) = insR l x ∧ TokAt h.length 1 X 23 3 tok ∧ st.le ⟨Tryd.f34.ntmps, [(3, .ref [iv x.e, iv x.n, iv x.o] 0), (0, .list (l.map Iid.av) t), (5, .list (acc.map Iid.av) tok), (6, .bool done), (7, iv (j : Nat))], h ++ (.dead :: X)⟩) l.length ?_ ?_
  rotate_left
  rintro z st ⟨j, done, acc, tok, X, rfl, hj, hal, hg, ht, hle⟩
  · refine awp_le hle ?_
    clear hle
    have hdn : done.toNat ≤ 1 := by cases done <;> decide
    obtain ⟨q6, q7, q8, q9⟩ := nbig (n := acc.length) (by omega)
    by_cases h10 : j = l.length
    · subst h10
      have q5 : ¬ (l.length : Int) < (l.length : Int) := by omega
      rw [List.drop_length] at hg
      cases done with
      | true =>
        simp only [if_true, List.append_nil] at hg
        repeat (first | ((first | refine zd ?_ | refine zx ?_ | refine zk ?_ | refine zl ?_ | refine zr ?_); refine zq ?_) | refine zs ?_ | refine zh (by simp -implicitDefEqProofs (disch := (first | omega | (simp; done) | fail)) [if_pos, if_neg, wrap_i64, tmod_pos, tdiv_pos, Int.toNat_add, q5]; rfl) ?_ | refine zb ?_ | refine zo ?_ | refine zt ?_ | refine zf ?_)
        first | refine zy (.inr rfl) ?_ | refine zy (.inl rfl) ?_
        simp [hg, lv]
      | false =>
        simp only [Bool.false_eq_true, if_false, insR] at hg
        rcases ht with rfl | ⟨i, rfl, hi⟩
        · repeat (first | ((first | refine zd ?_ | refine zx ?_ | refine zk ?_ | refine zl ?_ | refine zr ?_); refine zq ?_) | refine zs ?_ | refine zh (by simp -implicitDefEqProofs (disch := (first | omega | (simp; done) | fail)) [if_pos, if_neg, wrap_i64, tmod_pos, tdiv_pos, Int.toNat_add, q5, q6, q7]; rfl) ?_ | refine zb ?_ | refine zo ?_ | refine zt ?_ | refine zf ?_)
          first | refine zy (.inr rfl) ?_ | refine zy (.inl rfl) ?_
          simp [← hg, lv, Iid.av, Iid.c]
        · repeat (first | ((first | refine zd ?_ | refine zx ?_ | refine zk ?_ | refine zl ?_ | refine zr ?_); refine zq ?_) | refine zs ?_ | refine zh (by simp -implicitDefEqProofs (disch := (first | omega | (simp; done) | fail)) [if_pos, if_neg, wrap_i64, tmod_pos, tdiv_pos, Int.toNat_add, q5, hi, q6, q7]; rfl) ?_ | refine zb ?_ | refine zo ?_ | refine zt ?_ | refine zf ?_)
          first | refine zy (.inr rfl) ?_ | refine zy (.inl rfl) ?_
          simp [← hg, lv, Iid.av, Iid.c]
    have hlt : j < l.length := by omega
    have q5 : (j : Int) < (l.length : Int) := by omega
    have hx3 : (l.map Iid.av)[j]? = some (Iid.av l[j]) := by simp [hlt]
    have hd : l.drop j = l[j] :: l.drop (j + 1) := by rw [List.drop_eq_getElem_cons hlt]
    rw [hd] at hg
    have hlt2 : (j : Int) < 100000 := by omega
    have hz : l.length - (j + 1) < l.length - j := by omega
    have hj2 : j + 1 ≤ l.length := by omega
    have hal2 : (acc ++ [l[j]]).length ≤ j + 1 + done.toNat := by simp; omega
    have hal3 : done = false → (acc ++ [x, l[j]]).length ≤ j + 1 + 1 := fun e => by subst e; simp at hal ⊢; omega
    generalize l[j] = k at *
    clear hlt hd hal
    repeat (first | ((first | refine zd ?_ | refine zx ?_ | refine zk ?_ | refine zl ?_ | refine zr ?_); refine zq ?_) | refine zs ?_ | refine zh (by simp -implicitDefEqProofs (disch := (first | omega | (simp; done) | fail)) [if_pos, if_neg, wrap_i64, tmod_pos, tdiv_pos, Int.toNat_add, q5]; rfl) ?_ | refine zb ?_ | refine zo ?_ | refine zt ?_ | refine zf ?_)
    cases done with
    | true =>
      simp only [if_true] at hg
      rcases ht with rfl | ⟨i, rfl, hi⟩
      · refine awp_draw (.q 0 (.q 1 (.q 2 (.q 3 (.q 4 (.q 5 (.q 6 (.q 7 (.a 8 (.q 9 (.done))))))))))) (by kernel_rfl) (by kernel_rfl) (tree_start (goesT_eq (by simp -implicitDefEqProofs (disch := (first | omega | (simp; done) | fail)) [if_pos, if_neg, wrap_i64, tmod_pos, tdiv_pos, Int.toNat_add]; rfl) ?_))
        refine goesT_done ?_
        (try simp only [vq, if_true, reduceIte, Nat.reduceEqDiff, reduceCtorEq])
        repeat (first | ((first | refine zd ?_ | refine zx ?_ | refine zk ?_ | refine zl ?_ | refine zr ?_); refine zq ?_) | refine zs ?_ | refine zh (by simp -implicitDefEqProofs (disch := (first | omega | (simp; done) | fail)) [if_pos, if_neg, wrap_i64, tmod_pos, tdiv_pos, Int.toNat_add, hx3, Iid.av, Iid.c, q5, q6, q7]; rfl) ?_ | refine zb ?_ | refine zo ?_ | refine zt ?_ | refine zf ?_)
        exact ⟨l.length - (j + 1), hz, j + 1, true, acc ++ [k], .own (h.length + (X.length + 1)), X ++ [.tail 23 3], rfl, hj2, hal2, by simpa using hg, .new (by simp), st_keep' (by simp [Iid.av, Iid.c]) (by simp [Iid.av, Iid.c])⟩
      · refine awp_draw (.q 0 (.q 1 (.q 2 (.q 3 (.q 4 (.q 5 (.q 6 (.q 7 (.a 8 (.q 9 (.done))))))))))) (by kernel_rfl) (by kernel_rfl) (tree_start (goesT_eq (by simp -implicitDefEqProofs (disch := (first | omega | (simp; done) | fail)) [if_pos, if_neg, wrap_i64, tmod_pos, tdiv_pos, Int.toNat_add]; rfl) ?_))
        refine goesT_done ?_
        (try simp only [vq, if_true, reduceIte, Nat.reduceEqDiff, reduceCtorEq])
        repeat (first | ((first | refine zd ?_ | refine zx ?_ | refine zk ?_ | refine zl ?_ | refine zr ?_); refine zq ?_) | refine zs ?_ | refine zh (by simp -implicitDefEqProofs (disch := (first | omega | (simp; done) | fail)) [if_pos, if_neg, wrap_i64, tmod_pos, tdiv_pos, Int.toNat_add, hx3, Iid.av, Iid.c, q5, q6, q7, hi]; rfl) ?_ | refine zb ?_ | refine zo ?_ | refine zt ?_ | refine zf ?_)
        exact ⟨l.length - (j + 1), hz, j + 1, true, acc ++ [k], .own (h.length + (X.length + 1)), X.set i .dead ++ [.tail 23 3], rfl, hj2, hal2, by simpa using hg, .new (by simp), st_keep' (by simp [Iid.av, Iid.c]) (by simp [Iid.av, Iid.c])⟩
    | false =>
      have hlk := fun h => hless k h
      simp only [Bool.false_eq_true, if_false, insR] at hg
      refine awp_draw (.q 0 (.q 1 (.q 2 (.q 3 (.q 4 (.q 5 (.q 6 (.q 7 (.a 8 (.q 9 (.done))))))))))) (by kernel_rfl) (by kernel_rfl) (tree_start (goesT_eq (by simp -implicitDefEqProofs (disch := (first | omega | (simp; done) | fail)) [if_pos, if_neg, wrap_i64, tmod_pos, tdiv_pos, Int.toNat_add, hx3, Iid.av, Iid.c, q5]; rfl) ?_))
      refine zP (callable_of Tryd.func10) _ (hlk _) ?_
      rintro _ _ ⟨rfl, rfl⟩
      cases hb : lessB x k with
      | true =>
        rw [hb] at hg
        rcases ht with rfl | ⟨i, rfl, hi⟩
        · refine zE ?_
          refine goesT_done ?_
          (try simp only [vq, if_true, reduceIte, Nat.reduceEqDiff, reduceCtorEq])
          repeat (first | ((first | refine zd ?_ | refine zx ?_ | refine zk ?_ | refine zl ?_ | refine zr ?_); refine zq ?_) | refine zs ?_ | refine zh (by simp -implicitDefEqProofs (disch := (first | omega | (simp; done) | fail)) [if_pos, if_neg, wrap_i64, tmod_pos, tdiv_pos, Int.toNat_add, hx3, Iid.av, Iid.c, q5, q6, q7, q8, q9]; rfl) ?_ | refine zb ?_ | refine zo ?_ | refine zt ?_ | refine zf ?_)
          exact ⟨l.length - (j + 1), hz, j + 1, true, acc ++ [x, k], .own (h.length + (X.length + 1 + 1)), X ++ [.dead] ++ [.tail 23 3], rfl, hj2, hal3 rfl, by simpa using hg, .new (by simp), st_keep' (by simp [Iid.av, Iid.c]) (by simp [Iid.av, Iid.c])⟩
        · refine zE ?_
          refine goesT_done ?_
          (try simp only [vq, if_true, reduceIte, Nat.reduceEqDiff, reduceCtorEq])
          repeat (first | ((first | refine zd ?_ | refine zx ?_ | refine zk ?_ | refine zl ?_ | refine zr ?_); refine zq ?_) | refine zs ?_ | refine zh (by simp -implicitDefEqProofs (disch := (first | omega | (simp; done) | fail)) [if_pos, if_neg, wrap_i64, tmod_pos, tdiv_pos, Int.toNat_add, hx3, Iid.av, Iid.c, q5, q6, q7, q8, q9, hi]; rfl) ?_ | refine zb ?_ | refine zo ?_ | refine zt ?_ | refine zf ?_)
          exact ⟨l.length - (j + 1), hz, j + 1, true, acc ++ [x, k], .own (h.length + (X.length + 1 + 1)), X.set i .dead ++ [.dead] ++ [.tail 23 3], rfl, hj2, hal3 rfl, by simpa using hg, .new (by simp), st_keep' (by simp [Iid.av, Iid.c]) (by simp [Iid.av, Iid.c])⟩
      | false =>
        rw [hb] at hg
        rcases ht with rfl | ⟨i, rfl, hi⟩
        · refine zE ?_
          refine goesT_done ?_
          (try simp only [vq, if_true, reduceIte, Nat.reduceEqDiff, reduceCtorEq])
          repeat (first | ((first | refine zd ?_ | refine zx ?_ | refine zk ?_ | refine zl ?_ | refine zr ?_); refine zq ?_) | refine zs ?_ | refine zh (by simp -implicitDefEqProofs (disch := (first | omega | (simp; done) | fail)) [if_pos, if_neg, wrap_i64, tmod_pos, tdiv_pos, Int.toNat_add, hx3, Iid.av, Iid.c, q5, q6, q7]; rfl) ?_ | refine zb ?_ | refine zo ?_ | refine zt ?_ | refine zf ?_)
          exact ⟨l.length - (j + 1), hz, j + 1, false, acc ++ [k], .own (h.length + (X.length + 1)), X ++ [.tail 23 3], rfl, hj2, hal2, by simpa using hg, .new (by simp), st_keep' (by simp [Iid.av, Iid.c]) (by simp [Iid.av, Iid.c])⟩
        · refine zE ?_
          refine goesT_done ?_
          (try simp only [vq, if_true, reduceIte, Nat.reduceEqDiff, reduceCtorEq])
          repeat (first | ((first | refine zd ?_ | refine zx ?_ | refine zk ?_ | refine zl ?_ | refine zr ?_); refine zq ?_) | refine zs ?_ | refine zh (by simp -implicitDefEqProofs (disch := (first | omega | (simp; done) | fail)) [if_pos, if_neg, wrap_i64, tmod_pos, tdiv_pos, Int.toNat_add, hx3, Iid.av, Iid.c, q5, q6, q7, hi]; rfl) ?_ | refine zb ?_ | refine zo ?_ | refine zt ?_ | refine zf ?_)
          exact ⟨l.length - (j + 1), hz, j + 1, false, acc ++ [k], .own (h.length + (X.length + 1)), X.set i .dead ++ [.tail 23 3], rfl, hj2, hal2, by simpa using hg, .new (by simp), st_keep' (by simp [Iid.av, Iid.c]) (by simp [Iid.av, Iid.c])⟩
  · exact ⟨0, false, [], .full, [], rfl, by omega, by simp, by simp, .full, st_keep' (by simp []) (by simp [])⟩
end Go.Proofs.YtcppoojgekaaoaaDoor.I

/- Sets of instances: the document's answers: Clean, Union, Less2, Row. -/
set_option linter.unusedVariables false
set_option linter.unusedSimpArgs false
set_option maxRecDepth 20000
namespace Go.Proofs.YtcppoojgekaaoaaDoor.I
open Go Go.Proofs.YtcppoojgekaaoaaDoor.V Go.RowKit
attribute [local simp] av_uni
theorem clean_snoc (l : List Iid) (k : Iid) : clean (l ++ [k]) = putS (clean l) k := by simp [clean]
theorem rclean_ok (l : List Iid) (t : Tok) (hl : l.length ≤ 100000) (h : AHeap) : ACalls Tryd.prog 21 [.list (l.map Iid.av) t] h fun r h' => r = lv (clean l) ∧ h' = h := by
  refine acalls_of_awp Tryd.func21 rfl (by simp only [List.length_cons, List.length_nil]; decide) ?_
  simp only [params_cons, params_nil]
  repeat (first | ((first | refine zd ?_ | refine zx ?_ | refine zk ?_ | refine zl ?_ | refine zr ?_); refine zq ?_) | refine zs ?_ | refine zg ?_ | refine zb ?_ | refine zo ?_ | refine zt ?_ | refine zf ?_)
  refine awp_loop (fun z st => ∃ (j : Nat) (tok : Tok), z = l.length - j ∧ j ≤ l.length ∧ st.le ⟨Tryd.f21.ntmps, [(0, .list (l.map Iid.av) t), (3, .list ((clean (l.take j)).map Iid.av) tok), (4, iv (j : Nat))], h⟩) l.length ?_ ?_
  rotate_left
  rintro z st ⟨j, tok, rfl, hj, hle⟩
  · refine awp_le hle ?_
    clear hle
    by_cases h10 : j = l.length
    · subst h10
      have q5 : ¬ (l.length : Int) < (l.length : Int) := by omega
      rw [List.take_length]
      repeat (first | ((first | refine zd ?_ | refine zx ?_ | refine zk ?_ | refine zl ?_ | refine zr ?_); refine zq ?_) | refine zs ?_ | refine zh (by simp -implicitDefEqProofs (disch := (first | omega | (simp; done) | fail)) [if_pos, if_neg, wrap_i64, tmod_pos, tdiv_pos, Int.toNat_add, q5]; rfl) ?_ | refine zb ?_ | refine zo ?_ | refine zt ?_ | refine zf ?_)
      first | refine zY (.inr rfl) ?_ | refine zY (.inl rfl) ?_
      simp [lv]
    have hlt : j < l.length := by omega
    have q5 : (j : Int) < (l.length : Int) := by omega
    have hx3 : (l.map Iid.av)[j]? = some (Iid.av l[j]) := by simp [hlt]
    have htk2 : l.take (j + 1) = l.take j ++ [l[j]] := List.take_succ_eq_append_getElem hlt
    have hlt2 : (j : Int) < 100000 := by omega
    have hcl : (clean (l.take j)).length ≤ 100000 := Nat.le_trans (clean_len _) (by simp; omega)
    have hr := clean_ris (l.take j)
    have hs := clean_snoc (l.take j) l[j]
    rw [← htk2] at hs
    have hz : l.length - (j + 1) < l.length - j := by omega
    have hj2 : j + 1 ≤ l.length := by omega
    generalize l[j] = k at *
    clear hlt htk2
    generalize clean (l.take j) = u at *
    have hp := fun h => rput_ok u k .no hcl hr h
    unfold Iid.av at hp
    rw [show (fun x => AV.agg (Iid.c x)) = Iid.av from rfl] at hp
    unfold Iid.c at hp
    repeat (first | ((first | refine zd ?_ | refine zx ?_ | refine zk ?_ | refine zl ?_ | refine zr ?_); refine zq ?_) | refine zs ?_ | refine zh (by simp -implicitDefEqProofs (disch := (first | omega | (simp; done) | fail)) [if_pos, if_neg, wrap_i64, tmod_pos, tdiv_pos, Int.toNat_add, q5, hx3, Iid.av, Iid.c]; rfl) ?_ | refine zb ?_ | refine zo ?_ | refine zt ?_ | refine zf ?_)
    refine zp (callable_of Tryd.func34) _ (hp _) ?_
    rintro _ _ ⟨rfl, rfl⟩
    rw [← hs]
    refine goes_eq (by simp -implicitDefEqProofs (disch := (first | omega | (simp; done) | fail)) [if_pos, if_neg, wrap_i64, tmod_pos, tdiv_pos, Int.toNat_add, lv]; rfl) ?_
    repeat (first | ((first | refine zd ?_ | refine zx ?_ | refine zk ?_ | refine zl ?_ | refine zr ?_); refine zq ?_) | refine zs ?_ | refine zg ?_ | refine zb ?_ | refine zo ?_ | refine zt ?_ | refine zf ?_)
    exact ⟨l.length - (j + 1), hz, j + 1, .no, rfl, hj2, st_keep' (by simp []) (by simp [])⟩
  · exact ⟨0, .full, rfl, by omega, by rw [List.take_zero]; exact st_keep' (by simp [clean]) (by simp [clean])⟩
theorem row_ok (a b : List Iid) (t u : Tok) (ha : a.length ≤ 100000) (h : AHeap) : ACalls Tryd.prog 19 [.list (a.map Iid.av) t, .list (b.map Iid.av) u] h fun r h' => r = .bool (decide (a = b)) ∧ h' = h := by
  refine acalls_of_awp Tryd.func19 rfl (by simp only [List.length_cons, List.length_nil]; decide) ?_
  simp only [params_cons, params_nil]
  by_cases hlen : a.length = b.length
  case neg =>
    have hb : ((a.length : Int) != (b.length : Int)) = true := by simp; omega
    have hne : a ≠ b := fun e => hlen (by rw [e])
    repeat (first | ((first | refine zd ?_ | refine zx ?_ | refine zk ?_ | refine zl ?_ | refine zr ?_); refine zq ?_) | refine zs ?_ | refine zh (by simp -implicitDefEqProofs (disch := (first | omega | (simp; done) | fail)) [if_pos, if_neg, wrap_i64, tmod_pos, tdiv_pos, Int.toNat_add, hb]; rfl) ?_ | refine zb ?_ | refine zo ?_ | refine zt ?_ | refine zf ?_)
    first | refine zY (.inr rfl) ?_ | refine zY (.inl rfl) ?_
    simp [hne]
  repeat (first | ((first | refine zd ?_ | refine zx ?_ | refine zk ?_ | refine zl ?_ | refine zr ?_); refine zq ?_) | refine zs ?_ | refine zh (by simp -implicitDefEqProofs (disch := (first | omega | (simp; done) | fail)) [if_pos, if_neg, wrap_i64, tmod_pos, tdiv_pos, Int.toNat_add, hlen]; rfl) ?_ | refine zb ?_ | refine zo ?_ | refine zt ?_ | refine zf ?_)
  refine awp_loop (fun z st => ∃ (j : Nat), z = b.length - j ∧ j ≤ b.length ∧ a.take j = b.take j ∧ st.le ⟨Tryd.f19.ntmps, [(0, .list (a.map Iid.av) t), (1, .list (b.map Iid.av) u), (5, iv (j : Nat))], h⟩) b.length ?_ ?_
  rotate_left
  rintro z st ⟨j, rfl, hj, htk, hle⟩
  · refine awp_le hle ?_
    clear hle
    by_cases h10 : j = b.length
    · subst h10
      have q5 : ¬ (b.length : Int) < (b.length : Int) := by omega
      rw [← hlen, List.take_length, hlen, List.take_length] at htk
      repeat (first | ((first | refine zd ?_ | refine zx ?_ | refine zk ?_ | refine zl ?_ | refine zr ?_); refine zq ?_) | refine zs ?_ | refine zh (by simp -implicitDefEqProofs (disch := (first | omega | (simp; done) | fail)) [if_pos, if_neg, wrap_i64, tmod_pos, tdiv_pos, Int.toNat_add, q5, hlen]; rfl) ?_ | refine zb ?_ | refine zo ?_ | refine zt ?_ | refine zf ?_)
      first | refine zY (.inr rfl) ?_ | refine zY (.inl rfl) ?_
      simp [htk]
    have hlt : j < b.length := by omega
    have hlta : j < a.length := by omega
    have q5 : (j : Int) < (b.length : Int) := by omega
    have hx3 : (a.map Iid.av)[j]? = some (Iid.av a[j]) := by simp [hlta]
    have hx4 : (b.map Iid.av)[j]? = some (Iid.av b[j]) := by simp [hlt]
    have hlt2 : (j : Int) < 100000 := by omega
    have hz : b.length - (j + 1) < b.length - j := by omega
    have hj2 : j + 1 ≤ b.length := by omega
    repeat (first | ((first | refine zd ?_ | refine zx ?_ | refine zk ?_ | refine zl ?_ | refine zr ?_); refine zq ?_) | refine zs ?_ | refine zh (by simp -implicitDefEqProofs (disch := (first | omega | (simp; done) | fail)) [if_pos, if_neg, wrap_i64, tmod_pos, tdiv_pos, Int.toNat_add, q5, hlen]; rfl) ?_ | refine zb ?_ | refine zo ?_ | refine zt ?_ | refine zf ?_)
    by_cases hab : a[j] = b[j]
    · have htk2 : a.take (j + 1) = b.take (j + 1) := by rw [List.take_succ_eq_append_getElem hlta, List.take_succ_eq_append_getElem hlt, htk, hab]
      rw [hab] at hx3
      clear hab
      generalize b[j] = k at *
      clear hlt hlta
      refine awp_draw (.q 0 (.q 1 (.q 2 (.q 3 (.q 4 (.q 5 (.q 6 (.q 7 (.q 8 (.done)))))))))) (by kernel_rfl) (by kernel_rfl) (tree_start (goesT_eq (by simp -implicitDefEqProofs (disch := (first | omega | (simp; done) | fail)) [if_pos, if_neg, wrap_i64, tmod_pos, tdiv_pos, Int.toNat_add, hx3, hx4, Iid.av, Iid.c, hlen, q5]; rfl) ?_))
      refine goesT_done ?_
      (try simp only [vq, if_true, reduceIte, Nat.reduceEqDiff, reduceCtorEq])
      repeat (first | ((first | refine zd ?_ | refine zx ?_ | refine zk ?_ | refine zl ?_ | refine zr ?_); refine zq ?_) | refine zs ?_ | refine zg ?_ | refine zb ?_ | refine zo ?_ | refine zt ?_ | refine zf ?_)
      exact ⟨b.length - (j + 1), hz, j + 1, rfl, hj2, htk2, st_keep' (by simp []) (by simp [])⟩
    · have hne : a ≠ b := fun e => hab (by subst e; rfl)
      have he : (!a[j].e == b[j].e || (!a[j].n == b[j].n || !a[j].o == b[j].o)) = true := by
        have := neb a[j] b[j]
        simp only [bne] at this
        rw [this]; simpa using hab
      clear hab
      generalize a[j] = k at *
      generalize b[j] = k2 at *
      clear hlt hlta
      refine awp_draw (.q 0 (.q 1 (.q 2 (.q 3 (.q 4 (.q 5 (.q 6 (.q 7 (.q 8 (.done)))))))))) (by kernel_rfl) (by kernel_rfl) (tree_start (goesT_eq (by simp -implicitDefEqProofs (disch := (first | omega | (simp; done) | fail)) [if_pos, if_neg, wrap_i64, tmod_pos, tdiv_pos, Int.toNat_add, hx3, hx4, Iid.av, Iid.c, hlen, q5]; rfl) ?_))
      refine goesT_done ?_
      (try simp only [vq, if_true, reduceIte, Nat.reduceEqDiff, reduceCtorEq])
      refine awp_cond_t (by simp only [Slots.ev, Slots.get]; rw [← he]; rfl) ?_
      repeat (first | ((first | refine zd ?_ | refine zx ?_ | refine zk ?_ | refine zl ?_ | refine zr ?_); refine zq ?_) | refine zs ?_ | refine zg ?_ | refine zb ?_ | refine zo ?_ | refine zt ?_ | refine zf ?_)
      first | refine zY (.inr rfl) ?_ | refine zY (.inl rfl) ?_
      simp [hne]
  · exact ⟨0, rfl, by omega, by simp, st_keep' (by simp []) (by simp [])⟩
theorem nbig2 {n : Nat} (h : n ≤ 100001) : n * 24 ≤ 140737488355328 ∧ n ≤ 140737488355328 := by omega
theorem av_onesL (l : List Iid) : onesL (l.map Iid.av) = true := by
  induction l with
  | nil => rfl
  | cons a l ih => simp [onesL, ih, Iid.av, Iid.c]
theorem runion_ok (a b : List Iid) (t u : Tok) (ha : a.length ≤ 10000) (hb : b.length ≤ 10000) (h : AHeap) : ACalls Tryd.prog 23 [.list (a.map Iid.av) t, .list (b.map Iid.av) u] h fun r h' => r = lv (clean (a ++ b)) ∧ h' = h := by
  obtain ⟨q1, q2⟩ := nbig2 (n := a.length) (by omega)
  obtain ⟨q3, q4⟩ := nbig2 (n := a.length + b.length) (by omega)
  refine acalls_of_awp Tryd.func23 rfl (by simp only [List.length_cons, List.length_nil]; decide) ?_
  simp only [params_cons, params_nil]
  repeat (first | ((first | refine zd ?_ | refine zx ?_ | refine zk ?_ | refine zl ?_ | refine zr ?_); refine zq ?_) | refine zs ?_ | refine zh (by simp -implicitDefEqProofs (disch := (first | omega | (simp; done) | fail)) [if_pos, if_neg, wrap_i64, tmod_pos, tdiv_pos, Int.toNat_add, av_onesL, q1, q2, q3, q4]; rfl) ?_ | refine zb ?_ | refine zo ?_ | refine zt ?_ | refine zf ?_)
  have hc : ∀ h, ACalls Tryd.prog 21 [.list (a.map Iid.av ++ b.map Iid.av) .no] h fun r h' => r = lv (clean (a ++ b)) ∧ h' = h := fun h => by
    rw [← List.map_append]; exact rclean_ok (a ++ b) .no (by simp; omega) h
  refine zp (callable_of Tryd.func21) _ (hc _) ?_
  rintro _ _ ⟨rfl, rfl⟩
  refine goes_eq (by simp -implicitDefEqProofs (disch := (first | omega | (simp; done) | fail)) [if_pos, if_neg, wrap_i64, tmod_pos, tdiv_pos, Int.toNat_add, lv]; rfl) ?_
  repeat (first | ((first | refine zd ?_ | refine zx ?_ | refine zk ?_ | refine zl ?_ | refine zr ?_); refine zq ?_) | refine zs ?_ | refine zg ?_ | refine zb ?_ | refine zo ?_ | refine zt ?_ | refine zf ?_)
  first | refine zy (.inr rfl) ?_ | refine zy (.inl rfl) ?_
  simp [lv]
theorem sub_snoc (a b : List Iid) (k : Iid) : sub (a ++ [k]) b = sub a b ++ if b.contains k then [] else [k] := by
  unfold sub
  rw [List.filter_append]
  congr 1
  by_cases hm : k ∈ b <;> simp [List.filter_cons, hm]
set_option maxHeartbeats 1000000 in
theorem rless2_ok (a b : List Iid) (t u : Tok) (ha : a.length ≤ 10000) (hb : b.length ≤ 10000) (h : AHeap) : ACalls Tryd.prog 25 [.list (a.map Iid.av) t, .list (b.map Iid.av) u] h fun r h' => r = lv (clean (sub a b)) ∧ h' = h := by
  refine acalls_of_awp Tryd.func25 rfl (by simp only [List.length_cons, List.length_nil]; decide) ?_
  simp only [params_cons, params_nil]
  repeat (first | ((first | refine zd ?_ | refine zx ?_ | refine zk ?_ | refine zl ?_ | refine zr ?_); refine zq ?_) | refine zs ?_ | refine zg ?_ | refine zb ?_ | refine zo ?_ | refine zt ?_ | refine zf ?_)
  refine awp_loop (fun z st => ∃ (j : Nat) (tok : Tok) (X : AHeap), z = a.length - j ∧ j ≤ a.length ∧ TokIn h.length X 23 3 tok ∧ st.le ⟨Tryd.f25.ntmps, [(0, .list (a.map Iid.av) t), (1, .list (b.map Iid.av) u), (5, .list ((sub (a.take j) b).map Iid.av) tok), (6, iv (j : Nat))], h ++ X⟩) a.length ?_ ?_
  rotate_left
  rintro z st ⟨j, tok, X, rfl, hj, ht, hle⟩
  · refine awp_le hle ?_
    clear hle
    by_cases h10 : j = a.length
    · subst h10
      have q5 : ¬ (a.length : Int) < (a.length : Int) := by omega
      rw [List.take_length]
      have hs := sub_len a b
      repeat (first | ((first | refine zd ?_ | refine zx ?_ | refine zk ?_ | refine zl ?_ | refine zr ?_); refine zq ?_) | refine zs ?_ | refine zh (by simp -implicitDefEqProofs (disch := (first | omega | (simp; done) | fail)) [if_pos, if_neg, wrap_i64, tmod_pos, tdiv_pos, Int.toNat_add, q5]; rfl) ?_ | refine zb ?_ | refine zo ?_ | refine zt ?_ | refine zf ?_)
      refine zp (callable_of Tryd.func21) _ (rclean_ok (sub a b) .no (by omega) _) ?_
      rintro _ _ ⟨rfl, rfl⟩
      refine goes_eq (by simp -implicitDefEqProofs (disch := (first | omega | (simp; done) | fail)) [if_pos, if_neg, wrap_i64, tmod_pos, tdiv_pos, Int.toNat_add, lv]; rfl) ?_
      repeat (first | ((first | refine zd ?_ | refine zx ?_ | refine zk ?_ | refine zl ?_ | refine zr ?_); refine zq ?_) | refine zs ?_ | refine zg ?_ | refine zb ?_ | refine zo ?_ | refine zt ?_ | refine zf ?_)
      first | refine zy (.inr rfl) ?_ | refine zy (.inl rfl) ?_
      simp [lv]
    have hlt : j < a.length := by omega
    have q5 : (j : Int) < (a.length : Int) := by omega
    have hx3 : (a.map Iid.av)[j]? = some (Iid.av a[j]) := by simp [hlt]
    have htk2 : a.take (j + 1) = a.take j ++ [a[j]] := List.take_succ_eq_append_getElem hlt
    have hlt2 : (j : Int) < 100000 := by omega
    have hs := sub_snoc (a.take j) b a[j]
    rw [← htk2] at hs
    have hsl : (sub (a.take j) b).length ≤ 100001 := Nat.le_trans (sub_len _ _) (by simp; omega)
    obtain ⟨q6, q7, -, -⟩ := nbig hsl
    have hz : a.length - (j + 1) < a.length - j := by omega
    have hj2 : j + 1 ≤ a.length := by omega
    generalize a[j] = k at *
    clear hlt htk2 hsl
    have hp := fun h => rhas_ok b k .no (by omega) h
    unfold Iid.av at hp
    rw [show (fun x => AV.agg (Iid.c x)) = Iid.av from rfl] at hp
    unfold Iid.c at hp
    repeat (first | ((first | refine zd ?_ | refine zx ?_ | refine zk ?_ | refine zl ?_ | refine zr ?_); refine zq ?_) | refine zs ?_ | refine zh (by simp -implicitDefEqProofs (disch := (first | omega | (simp; done) | fail)) [if_pos, if_neg, wrap_i64, tmod_pos, tdiv_pos, Int.toNat_add, q5, hx3, Iid.av, Iid.c]; rfl) ?_ | refine zb ?_ | refine zo ?_ | refine zt ?_ | refine zf ?_)
    refine zp (callable_of Tryd.func18) _ (hp _) ?_
    rintro _ _ ⟨rfl, rfl⟩
    cases hb2 : b.contains k with
    | true =>
      rw [hb2, if_pos rfl, List.append_nil] at hs
      refine ze ?_
      repeat (first | ((first | refine zd ?_ | refine zx ?_ | refine zk ?_ | refine zl ?_ | refine zr ?_); refine zq ?_) | refine zs ?_ | refine zg ?_ | refine zb ?_ | refine zo ?_ | refine zt ?_ | refine zf ?_)
      exact ⟨a.length - (j + 1), hz, j + 1, tok, X, rfl, hj2, ht, by rw [hs]; exact st_keep' (by simp []) (by simp [])⟩
    | false =>
      rw [hb2, if_neg (by simp)] at hs
      generalize sub (a.take j) b = acc at *
      rcases ht with rfl | ⟨i, rfl, hi⟩
      · refine ze ?_
        repeat (first | ((first | refine zd ?_ | refine zx ?_ | refine zk ?_ | refine zl ?_ | refine zr ?_); refine zq ?_) | refine zs ?_ | refine zh (by simp -implicitDefEqProofs (disch := (first | omega | (simp; done) | fail)) [if_pos, if_neg, wrap_i64, tmod_pos, tdiv_pos, Int.toNat_add, hx3, Iid.av, Iid.c, q5, q6, q7]; rfl) ?_ | refine zb ?_ | refine zo ?_ | refine zt ?_ | refine zf ?_)
        exact ⟨a.length - (j + 1), hz, j + 1, .own (h.length + X.length), X ++ [.tail 23 3], rfl, hj2, .new (by simp), by rw [hs]; exact st_keep' (by simp [Iid.av, Iid.c]) (by simp [Iid.av, Iid.c])⟩
      · refine ze ?_
        repeat (first | ((first | refine zd ?_ | refine zx ?_ | refine zk ?_ | refine zl ?_ | refine zr ?_); refine zq ?_) | refine zs ?_ | refine zh (by simp -implicitDefEqProofs (disch := (first | omega | (simp; done) | fail)) [if_pos, if_neg, wrap_i64, tmod_pos, tdiv_pos, Int.toNat_add, hx3, Iid.av, Iid.c, q5, q6, q7, hi]; rfl) ?_ | refine zb ?_ | refine zo ?_ | refine zt ?_ | refine zf ?_)
        exact ⟨a.length - (j + 1), hz, j + 1, .own (h.length + X.length), X.set i .dead ++ [.tail 23 3], rfl, hj2, .new (by simp), by rw [hs]; exact st_keep' (by simp [Iid.av, Iid.c]) (by simp [Iid.av, Iid.c])⟩
  · exact ⟨0, .full, [], rfl, by omega, .full, by rw [List.take_zero]; exact st_keep' (by simp [sub]) (by simp [sub])⟩
end Go.Proofs.YtcppoojgekaaoaaDoor.I

/- Sets of instances: the law of sets. -/
set_option linter.unusedVariables false
set_option linter.unusedSimpArgs false
set_option maxRecDepth 20000
namespace Go.Proofs.YtcppoojgekaaoaaDoor.I
open Go Go.Proofs.YtcppoojgekaaoaaDoor.V Go.RowKit
theorem sets (a b : List Iid) (h : AHeap) : ACalls Tryd.prog 4 [lv a, lv b] h fun r h' => r = .bool true ∧ h' = h := by
  unfold lv
  refine acalls_of_awp Tryd.func4 rfl (by simp only [List.length_cons, List.length_nil]; decide) ?_
  simp only [params_cons, params_nil]
  repeat (first | ((first | refine zd ?_ | refine zx ?_ | refine zk ?_ | refine zl ?_ | refine zr ?_); refine zq ?_) | refine zs ?_ | refine zg ?_ | refine zb ?_ | refine zo ?_ | refine zt ?_ | refine zf ?_)
  refine zp (callable_of Tryd.func8) _ (works_ok _) ?_
  rintro _ h1 ⟨rfl, rfl⟩
  refine ze ?_
  by_cases h60 : (60 : Int) < (a.length : Int)
  · repeat (first | ((first | refine zd ?_ | refine zx ?_ | refine zk ?_ | refine zl ?_ | refine zr ?_); refine zq ?_) | refine zs ?_ | refine zh (by simp -implicitDefEqProofs (disch := (first | omega | (simp; done) | fail)) [if_pos, if_neg, wrap_i64, tmod_pos, tdiv_pos, Int.toNat_add, h60]; rfl) ?_ | refine zb ?_ | refine zo ?_ | refine zt ?_ | refine zf ?_)
    first | refine zY (.inr rfl) ?_ | refine zY (.inl rfl) ?_
    simp
  by_cases h61 : (60 : Int) < (b.length : Int)
  · repeat (first | ((first | refine zd ?_ | refine zx ?_ | refine zk ?_ | refine zl ?_ | refine zr ?_); refine zq ?_) | refine zs ?_ | refine zh (by simp -implicitDefEqProofs (disch := (first | omega | (simp; done) | fail)) [if_pos, if_neg, wrap_i64, tmod_pos, tdiv_pos, Int.toNat_add, h60, h61]; rfl) ?_ | refine zb ?_ | refine zo ?_ | refine zt ?_ | refine zf ?_)
    first | refine zY (.inr rfl) ?_ | refine zY (.inl rfl) ?_
    simp
  have ha := le60 h60
  have hb := le60 h61
  repeat (first | ((first | refine zd ?_ | refine zx ?_ | refine zk ?_ | refine zl ?_ | refine zr ?_); refine zq ?_) | refine zs ?_ | refine zh (by simp -implicitDefEqProofs (disch := (first | omega | (simp; done) | fail)) [if_pos, if_neg, wrap_i64, tmod_pos, tdiv_pos, Int.toNat_add, h60, h61]; rfl) ?_ | refine zb ?_ | refine zo ?_ | refine zt ?_ | refine zf ?_)
  clear h60 h61
  have lu : (clean (a ++ b)).length ≤ 120 := Nat.le_trans (clean_len _) (by simp; omega)
  have ld : (clean (sub a b)).length ≤ 60 := Nat.le_trans (clean_len _) (Nat.le_trans (sub_len _ _) ha)
  have lca : (clean a).length ≤ 60 := Nat.le_trans (clean_len _) ha
  have lcb : (clean b).length ≤ 60 := Nat.le_trans (clean_len _) hb
  have c1 : ∀ h, ACalls Tryd.prog 20 [lv a] h fun r h' => r = lv (clean a) ∧ h' = h := fun h => clean_ok _ .no (by omega) h
  have c2 : ∀ h, ACalls Tryd.prog 21 [lv a] h fun r h' => r = lv (clean a) ∧ h' = h := fun h => rclean_ok _ .no (by omega) h
  have c3 : ∀ h, ACalls Tryd.prog 21 [lv b] h fun r h' => r = lv (clean b) ∧ h' = h := fun h => rclean_ok _ .no (by omega) h
  have u1 : ∀ h, ACalls Tryd.prog 22 [lv a, lv b] h fun r h' => r = lv (clean (a ++ b)) ∧ h' = h := fun h => union_ok _ _ .no .no (by omega) (by omega) h
  have u2 : ∀ h, ACalls Tryd.prog 23 [lv a, lv b] h fun r h' => r = lv (clean (a ++ b)) ∧ h' = h := fun h => runion_ok _ _ .no .no (by omega) (by omega) h
  have d1 : ∀ h, ACalls Tryd.prog 24 [lv a, lv b] h fun r h' => r = lv (clean (sub a b)) ∧ h' = h := fun h => less2_ok _ _ .no .no (by omega) (by omega) h
  have d2 : ∀ h, ACalls Tryd.prog 25 [lv a, lv b] h fun r h' => r = lv (clean (sub a b)) ∧ h' = h := fun h => rless2_ok _ _ .no .no (by omega) (by omega) h
  have s1 : ∀ h, ACalls Tryd.prog 26 [lv a, lv b] h fun r h' => r = .bool (decide (clean a = clean b)) ∧ h' = h := fun h => same_ok _ _ .no .no (by omega) (by omega) h
  have r1 : ∀ h, ACalls Tryd.prog 19 [lv (clean a), lv (clean a)] h fun r h' => r = .bool true ∧ h' = h := fun h => by
    have := row_ok (clean a) (clean a) .no .no (by omega) h; rwa [decide_eq_true rfl] at this
  have r2 : ∀ h, ACalls Tryd.prog 19 [lv (clean (a ++ b)), lv (clean (a ++ b))] h fun r h' => r = .bool true ∧ h' = h := fun h => by
    have := row_ok (clean (a ++ b)) (clean (a ++ b)) .no .no (by omega) h; rwa [decide_eq_true rfl] at this
  have r3 : ∀ h, ACalls Tryd.prog 19 [lv (clean (sub a b)), lv (clean (sub a b))] h fun r h' => r = .bool true ∧ h' = h := fun h => by
    have := row_ok (clean (sub a b)) (clean (sub a b)) .no .no (by omega) h; rwa [decide_eq_true rfl] at this
  have r4 : ∀ h, ACalls Tryd.prog 19 [lv (clean a), lv (clean b)] h fun r h' => r = .bool (decide (clean a = clean b)) ∧ h' = h := fun h => row_ok _ _ .no .no (by omega) h
  clear lu ld lca lcb ha hb
  generalize clean (a ++ b) = u at *
  generalize clean (sub a b) = d at *
  generalize clean a = ca at *
  generalize clean b = cb at *
  generalize decide (ca = cb) = p at *
  unfold lv at *
  refine zp (callable_of Tryd.func20) _ (c1 _) ?_
  rintro _ _ ⟨rfl, rfl⟩
  refine goes_eq (by simp -implicitDefEqProofs (disch := (first | omega | (simp; done) | fail)) [if_pos, if_neg, wrap_i64, tmod_pos, tdiv_pos, Int.toNat_add, lv]; rfl) ?_
  refine zp (callable_of Tryd.func21) _ (c2 _) ?_
  rintro _ _ ⟨rfl, rfl⟩
  refine goes_eq (by simp -implicitDefEqProofs (disch := (first | omega | (simp; done) | fail)) [if_pos, if_neg, wrap_i64, tmod_pos, tdiv_pos, Int.toNat_add, lv]; rfl) ?_
  refine zp (callable_of Tryd.func19) _ (r1 _) ?_
  rintro _ _ ⟨rfl, rfl⟩
  refine goes_eq (by simp -implicitDefEqProofs (disch := (first | omega | (simp; done) | fail)) [if_pos, if_neg, wrap_i64, tmod_pos, tdiv_pos, Int.toNat_add, lv]; rfl) ?_
  repeat (first | ((first | refine zd ?_ | refine zx ?_ | refine zk ?_ | refine zl ?_ | refine zr ?_); refine zq ?_) | refine zs ?_ | refine zg ?_ | refine zb ?_ | refine zo ?_ | refine zt ?_ | refine zf ?_)
  refine zp (callable_of Tryd.func22) _ (u1 _) ?_
  rintro _ _ ⟨rfl, rfl⟩
  refine goes_eq (by simp -implicitDefEqProofs (disch := (first | omega | (simp; done) | fail)) [if_pos, if_neg, wrap_i64, tmod_pos, tdiv_pos, Int.toNat_add, lv]; rfl) ?_
  refine zp (callable_of Tryd.func23) _ (u2 _) ?_
  rintro _ _ ⟨rfl, rfl⟩
  refine goes_eq (by simp -implicitDefEqProofs (disch := (first | omega | (simp; done) | fail)) [if_pos, if_neg, wrap_i64, tmod_pos, tdiv_pos, Int.toNat_add, lv]; rfl) ?_
  refine zp (callable_of Tryd.func19) _ (r2 _) ?_
  rintro _ _ ⟨rfl, rfl⟩
  refine goes_eq (by simp -implicitDefEqProofs (disch := (first | omega | (simp; done) | fail)) [if_pos, if_neg, wrap_i64, tmod_pos, tdiv_pos, Int.toNat_add, lv]; rfl) ?_
  repeat (first | ((first | refine zd ?_ | refine zx ?_ | refine zk ?_ | refine zl ?_ | refine zr ?_); refine zq ?_) | refine zs ?_ | refine zg ?_ | refine zb ?_ | refine zo ?_ | refine zt ?_ | refine zf ?_)
  refine zp (callable_of Tryd.func24) _ (d1 _) ?_
  rintro _ _ ⟨rfl, rfl⟩
  refine goes_eq (by simp -implicitDefEqProofs (disch := (first | omega | (simp; done) | fail)) [if_pos, if_neg, wrap_i64, tmod_pos, tdiv_pos, Int.toNat_add, lv]; rfl) ?_
  refine zp (callable_of Tryd.func25) _ (d2 _) ?_
  rintro _ _ ⟨rfl, rfl⟩
  refine goes_eq (by simp -implicitDefEqProofs (disch := (first | omega | (simp; done) | fail)) [if_pos, if_neg, wrap_i64, tmod_pos, tdiv_pos, Int.toNat_add, lv]; rfl) ?_
  refine zp (callable_of Tryd.func19) _ (r3 _) ?_
  rintro _ _ ⟨rfl, rfl⟩
  refine goes_eq (by simp -implicitDefEqProofs (disch := (first | omega | (simp; done) | fail)) [if_pos, if_neg, wrap_i64, tmod_pos, tdiv_pos, Int.toNat_add, lv]; rfl) ?_
  repeat (first | ((first | refine zd ?_ | refine zx ?_ | refine zk ?_ | refine zl ?_ | refine zr ?_); refine zq ?_) | refine zs ?_ | refine zg ?_ | refine zb ?_ | refine zo ?_ | refine zt ?_ | refine zf ?_)
  refine zp (callable_of Tryd.func21) _ (c2 _) ?_
  rintro _ _ ⟨rfl, rfl⟩
  refine goes_eq (by simp -implicitDefEqProofs (disch := (first | omega | (simp; done) | fail)) [if_pos, if_neg, wrap_i64, tmod_pos, tdiv_pos, Int.toNat_add, lv]; rfl) ?_
  refine zp (callable_of Tryd.func21) _ (c3 _) ?_
  rintro _ _ ⟨rfl, rfl⟩
  refine goes_eq (by simp -implicitDefEqProofs (disch := (first | omega | (simp; done) | fail)) [if_pos, if_neg, wrap_i64, tmod_pos, tdiv_pos, Int.toNat_add, lv]; rfl) ?_
  refine zp (callable_of Tryd.func19) _ (r4 _) ?_
  rintro _ _ ⟨rfl, rfl⟩
  refine goes_eq (by simp -implicitDefEqProofs (disch := (first | omega | (simp; done) | fail)) [if_pos, if_neg, wrap_i64, tmod_pos, tdiv_pos, Int.toNat_add, lv]; rfl) ?_
  repeat (first | ((first | refine zd ?_ | refine zx ?_ | refine zk ?_ | refine zl ?_ | refine zr ?_); refine zq ?_) | refine zs ?_ | refine zg ?_ | refine zb ?_ | refine zo ?_ | refine zt ?_ | refine zf ?_)
  refine zp (callable_of Tryd.func26) _ (s1 _) ?_
  rintro _ _ ⟨rfl, rfl⟩
  refine goes_eq (by simp -implicitDefEqProofs (disch := (first | omega | (simp; done) | fail)) [if_pos, if_neg, wrap_i64, tmod_pos, tdiv_pos, Int.toNat_add, lv]; rfl) ?_
  repeat (first | ((first | refine zd ?_ | refine zx ?_ | refine zk ?_ | refine zl ?_ | refine zr ?_); refine zq ?_) | refine zs ?_ | refine zg ?_ | refine zb ?_ | refine zo ?_ | refine zt ?_ | refine zf ?_)
  first | refine zY (.inr rfl) ?_ | refine zY (.inl rfl) ?_
  simp
theorem walk_IdsSets (x0 : Came) {w : World} (f0 : IdsAt w x0.v) (x1 : Came) (f1 : IdsAt w x1.v) :
    Calls Tryd.prog 4 #[x0.v, x1.v] w fun e w' => e = .returned (.bool true) ∧ Below w.heap.size w w' := by
  obtain ⟨a, ha⟩ := f0
  obtain ⟨b, hb⟩ := f1
  exact Law.calls (sets a b []) w (vals_of (cells_cons ha (cells_cons hb (cells_nil _))))
end Go.Proofs.YtcppoojgekaaoaaDoor.I
