import Derived.Test.YtcppoojgekaaoaaDoorIC
import Derived.Test.YtcppoojgekaaoaaDoorV21
import Derived.Test.YtcppoojgekaaoaaDoorV22
import Derived.Test.YtcppoojgekaaoaaDoorV28
/- Sets of instances: texts of numbers; the document's example. -/
set_option linter.unusedVariables false
set_option linter.unusedSimpArgs false
set_option maxRecDepth 20000
namespace Go.Proofs.YtcppoojgekaaoaaDoor.I
open Go Go.Proofs.YtcppoojgekaaoaaDoor.V Go.RowKit
theorem itoa_small (i : Nat) (hi : i < 100) (h : AHeap) : ACalls Tryd.prog 29 [iv i] h fun r h' => r = .str (Lib.decDigits i) ∧ h' = h := fun w0 g w vs hv S => by
  obtain ⟨v, rfl, hr⟩ := vals_one hv
  obtain rfl := hr.int_eq
  have hc : Calls Tryd.prog 29 _ _ _ := Any.strconv_Itoa_small (P := Tryd.prog) (ρ := Tryd.itoaL_ren) { Tryd.itoaL with } i hi w
  refine hc.mono ?_
  rintro e w' ⟨rfl, rfl⟩
  exact ⟨_, _, h, g, rfl, .refl g, .str _, S, rfl, rfl⟩
theorem itoa_one (i : Nat) (hi : i < 10) (h : AHeap) : ACalls Tryd.prog 29 [iv i] h fun r h' => r = .str [UInt8.ofNat (48 + i)] ∧ h' = h := by
  rw [← Lib.decDigits_one hi]
  exact itoa_small i (by omega) h
theorem show_of (x : Iid) (a b c : List UInt8) (la : a.length ≤ 100) (lb : b.length ≤ 100) (lc : c.length ≤ 100) (h : AHeap)
    (i1 : ACalls Tryd.prog 29 [iv x.e] (h ++ [.dead]) fun r h' => r = .str a ∧ h' = h ++ [.dead])
    (i2 : ACalls Tryd.prog 29 [iv x.n] (h ++ [.dead]) fun r h' => r = .str b ∧ h' = h ++ [.dead])
    (i3 : ACalls Tryd.prog 29 [iv x.o] (h ++ [.dead]) fun r h' => r = .str c ∧ h' = h ++ [.dead]) :
    ACalls Tryd.prog 13 [Iid.av x] h fun r h' => r = .str (a ++ 46 :: (b ++ 46 :: c)) ∧ h' = h := by
  have q1 : a.length ≤ 9223372036854775806 := by omega
  have q2 : a.length + (b.length + 1) ≤ 9223372036854775807 := by omega
  have q3 : a.length + (b.length + 1 + 1) ≤ 9223372036854775807 := by omega
  have q4 : a.length + (b.length + (c.length + 1) + 1) ≤ 9223372036854775807 := by omega
  unfold Iid.av Iid.c
  refine acalls_of_awp Tryd.func13 rfl (by simp only [List.length_cons, List.length_nil]; decide) ?_
  simp only [params_cons, params_nil]
  refine awp_seq ?_
  refine zg ?_
  refine goes_done ?_
  (try simp only [vq, if_true, reduceIte, Nat.reduceEqDiff, reduceCtorEq])
  refine awp_hard (id := h.length) (by simp -implicitDefEqProofs; rfl) ?_
  simp -implicitDefEqProofs only [Slots.melt, AV.melt, Nat.add_left_cancel_iff, Nat.add_eq_left, Nat.left_eq_add, Nat.reduceEqDiff, reduceIte, Nat.succ_ne_self, Nat.one_ne_zero, Nat.zero_ne_one, List.set_append_right, List.set_append_left, Nat.sub_self, Nat.le_refl, Nat.add_sub_cancel_left, Nat.le_add_right, List.set_cons_zero, List.set_cons_succ]
  repeat (first | ((first | refine zd ?_ | refine zx ?_ | refine zk ?_ | refine zl ?_ | refine zr ?_); refine zq ?_) | refine zs ?_ | refine zg ?_ | refine zb ?_ | refine zo ?_ | refine zt ?_ | refine zf ?_)
  refine awp_draw (.q 0 (.q 1 (.q 4 (.q 5 (.q 9 (.q 10 (.a 2 (.q 3 (.a 6 (.q 7 (.q 8 (.a 11 (.q 12 (.q 13 (.done))))))))))))))) (by kernel_rfl) (by kernel_rfl) (tree_start (goesT_eq (by simp -implicitDefEqProofs (disch := (first | omega | (simp; done) | fail)) [if_pos, if_neg, wrap_i64, tmod_pos, tdiv_pos, Int.toNat_add]; rfl) ?_))
  refine zP (callable_of Tryd.func29) _ i1 ?_
  rintro _ _ ⟨rfl, rfl⟩
  refine goesT_eq (by simp -implicitDefEqProofs (disch := (first | omega | (simp; done) | fail)) [if_pos, if_neg, wrap_i64, tmod_pos, tdiv_pos, Int.toNat_add, q1, q2, q3, q4]; rfl) ?_
  refine zP (callable_of Tryd.func29) _ i2 ?_
  rintro _ _ ⟨rfl, rfl⟩
  refine goesT_eq (by simp -implicitDefEqProofs (disch := (first | omega | (simp; done) | fail)) [if_pos, if_neg, wrap_i64, tmod_pos, tdiv_pos, Int.toNat_add, q1, q2, q3, q4]; rfl) ?_
  refine zP (callable_of Tryd.func29) _ i3 ?_
  rintro _ _ ⟨rfl, rfl⟩
  refine goesT_eq (by simp -implicitDefEqProofs (disch := (first | omega | (simp; done) | fail)) [if_pos, if_neg, wrap_i64, tmod_pos, tdiv_pos, Int.toNat_add, q1, q2, q3, q4]; rfl) ?_
  refine goesT_done ?_
  (try simp only [vq, if_true, reduceIte, Nat.reduceEqDiff, reduceCtorEq])
  repeat (first | ((first | refine zd ?_ | refine zx ?_ | refine zk ?_ | refine zl ?_ | refine zr ?_); refine zq ?_) | refine zs ?_ | refine zg ?_ | refine zb ?_ | refine zo ?_ | refine zt ?_ | refine zf ?_)
  first | refine zy (.inr rfl) ?_ | refine zy (.inl rfl) ?_
  simp
abbrev wa : Iid := ⟨1, 2, 3⟩
abbrev wb : Iid := ⟨1, 1, 4⟩
theorem works_ok (h : AHeap) : ACalls Tryd.prog 8 [] h fun r h' => r = .bool true ∧ h' = h := by
  have c1 : ∀ h, ACalls Tryd.prog 22 [.list [Iid.av wb] .no, .list [Iid.av wa, Iid.av wb] .no] h fun r h' => r = lv [wa, wb] ∧ h' = h := fun h => by
    rw [show [wa, wb] = clean ([wb] ++ [wa, wb]) by decide]; exact union_ok [wb] [wa, wb] .no .no (by decide) (by decide) h
  have c2 : ∀ h, ACalls Tryd.prog 24 [.list [Iid.av wa, Iid.av wb] .no, .list [Iid.av wa] .no] h fun r h' => r = lv [wb] ∧ h' = h := fun h => by
    rw [show [wb] = clean (sub [wa, wb] [wa]) by decide]; exact less2_ok [wa, wb] [wa] .no .no (by decide) (by decide) h
  have c3 : ∀ h, ACalls Tryd.prog 13 [Iid.av wa] h fun r h' => r = .str [49, 46, 50, 46, 51] ∧ h' = h := fun h => show_of wa [49] [50] [51] (by decide) (by decide) (by decide) h (itoa_one 1 (by decide) _) (itoa_one 2 (by decide) _) (itoa_one 3 (by decide) _)
  have c4 : ∀ h, ACalls Tryd.prog 15 [.list [Iid.av wa, Iid.av wb] .no] h fun r h' => r = .bool true ∧ h' = h := fun h => right_ok [wa, wb] .no (by decide) h
  have c5 : ∀ h, ACalls Tryd.prog 17 [.list [Iid.av wa, Iid.av wb] .no, Iid.av wb] h fun r h' => r = .bool true ∧ h' = h := fun h => has_ok [wa, wb] wb .no (by decide) h
  have c6 : ∀ h, ACalls Tryd.prog 9 [Iid.av wa, Iid.av wb] h fun r h' => r = .bool true ∧ h' = h := fun h => less_ok wa wb h
  have c7 : ∀ h, ACalls Tryd.prog 11 [Iid.av wa] h fun r h' => r = .bool true ∧ h' = h := fun h => valid_ok wa h
  have c8 : ∀ h, ACalls Tryd.prog 26 [.list [Iid.av wa, Iid.av wb] .no, .list [Iid.av wb, Iid.av wa] .no] h fun r h' => r = .bool true ∧ h' = h := fun h => same_ok [wa, wb] [wb, wa] .no .no (by decide) (by decide) h
  have c9 : ∀ h, ACalls Tryd.prog 20 [.list [Iid.av wa, Iid.av wa] .no] h fun r h' => r = lv [wa] ∧ h' = h := fun h => clean_ok [wa, wa] .no (by decide) h
  simp only [Iid.av, Iid.c] at c1 c2 c3 c4 c5 c6 c7 c8 c9
  refine acalls_of_awp Tryd.func8 rfl (by simp only [List.length_cons, List.length_nil]; decide) ?_
  simp only [params_cons, params_nil]
  refine awp_seq ?_
  refine zg ?_
  refine goes_done ?_
  (try simp only [vq, if_true, reduceIte, Nat.reduceEqDiff, reduceCtorEq])
  refine awp_seq ?_
  refine zg ?_
  refine goes_done ?_
  (try simp only [vq, if_true, reduceIte, Nat.reduceEqDiff, reduceCtorEq])
  refine awp_seq ?_
  refine zg ?_
  refine goes_done ?_
  (try simp only [vq, if_true, reduceIte, Nat.reduceEqDiff, reduceCtorEq])
  refine awp_hard (id := h.length) (by simp -implicitDefEqProofs; rfl) ?_
  simp -implicitDefEqProofs only [Slots.melt, AV.melt, Nat.add_left_cancel_iff, Nat.add_eq_left, Nat.left_eq_add, Nat.reduceEqDiff, reduceIte, Nat.succ_ne_self, Nat.one_ne_zero, Nat.zero_ne_one, List.set_append_right, List.set_append_left, Nat.sub_self, Nat.le_refl, Nat.add_sub_cancel_left, Nat.le_add_right, List.set_cons_zero, List.set_cons_succ]
  refine awp_hard (id := h.length + 1) (by simp -implicitDefEqProofs; rfl) ?_
  simp -implicitDefEqProofs only [Slots.melt, AV.melt, Nat.add_left_cancel_iff, Nat.add_eq_left, Nat.left_eq_add, Nat.reduceEqDiff, reduceIte, Nat.succ_ne_self, Nat.one_ne_zero, Nat.zero_ne_one, List.set_append_right, List.set_append_left, Nat.sub_self, Nat.le_refl, Nat.add_sub_cancel_left, Nat.le_add_right, List.set_cons_zero, List.set_cons_succ]
  repeat (first | ((first | refine zd ?_ | refine zx ?_ | refine zk ?_ | refine zl ?_ | refine zr ?_); refine zq ?_) | refine zs ?_ | refine zg ?_ | refine zb ?_ | refine zo ?_ | refine zt ?_ | refine zf ?_)
  refine zp (callable_of Tryd.func22) _ (c1 _) ?_
  rintro _ _ ⟨rfl, rfl⟩
  refine goes_eq (by simp -implicitDefEqProofs (disch := (first | omega | (simp; done) | fail)) [if_pos, if_neg, wrap_i64, tmod_pos, tdiv_pos, Int.toNat_add, lv, Iid.av, Iid.c]; rfl) ?_
  repeat (first | ((first | refine zd ?_ | refine zx ?_ | refine zk ?_ | refine zl ?_ | refine zr ?_); refine zq ?_) | refine zs ?_ | refine zg ?_ | refine zb ?_ | refine zo ?_ | refine zt ?_ | refine zf ?_)
  refine zp (callable_of Tryd.func24) _ (c2 _) ?_
  rintro _ _ ⟨rfl, rfl⟩
  refine goes_eq (by simp -implicitDefEqProofs (disch := (first | omega | (simp; done) | fail)) [if_pos, if_neg, wrap_i64, tmod_pos, tdiv_pos, Int.toNat_add, lv, Iid.av, Iid.c]; rfl) ?_
  repeat (first | ((first | refine zd ?_ | refine zx ?_ | refine zk ?_ | refine zl ?_ | refine zr ?_); refine zq ?_) | refine zs ?_ | refine zg ?_ | refine zb ?_ | refine zo ?_ | refine zt ?_ | refine zf ?_)
  refine awp_draw (.q 0 (.a 1 (.q 2 (.q 3 (.q 4 (.q 5 (.q 6 (.q 7 (.q 8 (.q 9 (.q 10 (.q 11 (.q 12 (.q 13 (.q 14 (.q 15 (.q 16 (.a 17 (.q 18 (.q 19 (.q 20 (.q 21 (.a 22 (.q 23 (.q 24 (.q 25 (.q 26 (.q 27 (.q 28 (.q 29 (.q 30 (.q 31 (.a 32 (.q 33 (.q 34 (.q 35 (.a 36 (.q 37 (.q 38 (.q 39 (.q 40 (.q 41 (.a 42 (.a 43 (.q 44 (.q 45 (.q 46 (.q 47 (.a 48 (.a 49 (.q 50 (.q 51 (.q 52 (.q 53 (.done))))))))))))))))))))))))))))))))))))))))))))))))))))))) (by kernel_rfl) (by kernel_rfl) (tree_start (goesT_eq (by simp -implicitDefEqProofs (disch := (first | omega | (simp; done) | fail)) [if_pos, if_neg, wrap_i64, tmod_pos, tdiv_pos, Int.toNat_add]; rfl) ?_))
  refine zP (callable_of Tryd.func13) _ (c3 _) ?_
  rintro _ _ ⟨rfl, rfl⟩
  refine zE ?_
  refine zP (callable_of Tryd.func15) _ (c4 _) ?_
  rintro _ _ ⟨rfl, rfl⟩
  refine zE ?_
  refine zP (callable_of Tryd.func17) _ (c5 _) ?_
  rintro _ _ ⟨rfl, rfl⟩
  refine zE ?_
  refine zP (callable_of Tryd.func9) _ (c6 _) ?_
  rintro _ _ ⟨rfl, rfl⟩
  refine zE ?_
  refine zP (callable_of Tryd.func11) _ (c7 _) ?_
  rintro _ _ ⟨rfl, rfl⟩
  refine zE ?_
  refine zP (callable_of Tryd.func26) _ (c8 _) ?_
  rintro _ _ ⟨rfl, rfl⟩
  refine zE ?_
  refine zP (callable_of Tryd.func20) _ (c9 _) ?_
  rintro _ _ ⟨rfl, rfl⟩
  refine goesT_eq (by simp -implicitDefEqProofs (disch := (first | omega | (simp; done) | fail)) [if_pos, if_neg, wrap_i64, tmod_pos, tdiv_pos, Int.toNat_add, lv]; rfl) ?_
  refine goesT_done ?_
  (try simp only [vq, if_true, reduceIte, Nat.reduceEqDiff, reduceCtorEq])
  repeat (first | ((first | refine zd ?_ | refine zx ?_ | refine zk ?_ | refine zl ?_ | refine zr ?_); refine zq ?_) | refine zs ?_ | refine zg ?_ | refine zb ?_ | refine zo ?_ | refine zt ?_ | refine zf ?_)
  first | refine zy (.inr rfl) ?_ | refine zy (.inl rfl) ?_
  simp
end Go.Proofs.YtcppoojgekaaoaaDoor.I

/- Sets of instances: laws: what is taken away. -/
set_option linter.unusedVariables false
set_option linter.unusedSimpArgs false
set_option maxRecDepth 20000
namespace Go.Proofs.YtcppoojgekaaoaaDoor.I
open Go Go.Proofs.YtcppoojgekaaoaaDoor.V Go.RowKit
theorem ris_nodup {l : List Iid} (h : Ris l) : l.Nodup := h.imp fun {a b} hab e => by subst e; simp [lessB] at hab
theorem sub_len (a b : List Iid) : (sub a b).length ≤ a.length := List.length_filter_le _ _
theorem cuts_one (a b : List Iid) : clean (clean (clean (sub a b) ++ clean (sub a (clean (sub a b))))) = clean a := clean_ext fun x => by
  simp only [clean_mem, List.mem_append, sub_mem]
  by_cases h1 : x ∈ a <;> by_cases h2 : x ∈ b <;> simp [h1, h2]
theorem cuts_two (a b : List Iid) : clean (clean (sub (clean (sub a b)) b)) = clean (clean (sub a b)) := clean_ext fun x => by
  simp only [clean_mem, sub_mem]
  by_cases h1 : x ∈ a <;> by_cases h2 : x ∈ b <;> simp [h1, h2]
theorem cuts_three (a : List Iid) : clean (clean (sub a [])) = clean a := clean_ext fun x => by
  simp only [clean_mem, sub_mem]
  simp
theorem cuts_four (a : List Iid) : clean (sub a a) = [] := by
  have h : sub a a = [] := by
    unfold sub
    rw [List.filter_eq_nil_iff]
    intro x hx
    simpa using hx
  rw [h]; rfl
theorem cuts_five (a b : List Iid) : (clean (sub a b)).length + (clean (sub a (clean (sub a b)))).length = (clean a).length := by
  rw [← List.length_append]
  refine nd_len ?_ (ris_nodup (clean_ris _)) fun x => ?_
  · rw [List.nodup_append]
    refine ⟨ris_nodup (clean_ris _), ris_nodup (clean_ris _), fun x hx y hy e => ?_⟩
    subst e
    simp only [clean_mem, sub_mem] at hx hy
    exact hy.2 hx
  · simp only [clean_mem, List.mem_append, sub_mem]
    by_cases h1 : x ∈ a <;> by_cases h2 : x ∈ b <;> simp [h1, h2]
theorem le60 {l : List Iid} (h : ¬ (60 : Int) < (l.length : Int)) : l.length ≤ 60 := by omega
theorem cuts (a b : List Iid) (h : AHeap) : ACalls Tryd.prog 7 [lv a, lv b] h fun r h' => r = .bool true ∧ h' = h := by
  unfold lv
  refine acalls_of_awp Tryd.func7 rfl (by simp only [List.length_cons, List.length_nil]; decide) ?_
  simp only [params_cons, params_nil]
  repeat (first | ((first | refine zd ?_ | refine zx ?_ | refine zk ?_ | refine zl ?_ | refine zr ?_); refine zq ?_) | refine zs ?_ | refine zg ?_ | refine zb ?_ | refine zo ?_ | refine zt ?_ | refine zf ?_)
  refine zp (callable_of Tryd.func8) _ (works_ok _) ?_
  rintro _ h1 ⟨rfl, rfl⟩
  refine ze ?_
  by_cases h60 : (60 : Int) < (a.length : Int)
  · repeat (first | ((first | refine zd ?_ | refine zx ?_ | refine zk ?_ | refine zl ?_ | refine zr ?_); refine zq ?_) | refine zs ?_ | refine zh (by simp -implicitDefEqProofs (disch := (first | omega | (simp; done) | fail)) [if_pos, if_neg, wrap_i64, tmod_pos, tdiv_pos, Int.toNat_add, h60]; rfl) ?_ | refine zb ?_ | refine zo ?_ | refine zt ?_ | refine zf ?_)
    first | refine zY (.inr rfl) ?_ | refine zY (.inl rfl) ?_
    simp
  by_cases h61 : (60 : Int) < (b.length : Int)
  · repeat (first | ((first | refine zd ?_ | refine zx ?_ | refine zk ?_ | refine zl ?_ | refine zr ?_); refine zq ?_) | refine zs ?_ | refine zh (by simp -implicitDefEqProofs (disch := (first | omega | (simp; done) | fail)) [if_pos, if_neg, wrap_i64, tmod_pos, tdiv_pos, Int.toNat_add, h60, h61]; rfl) ?_ | refine zb ?_ | refine zo ?_ | refine zt ?_ | refine zf ?_)
    first | refine zY (.inr rfl) ?_ | refine zY (.inl rfl) ?_
    simp
  have ha := le60 h60
  have hb := le60 h61
  repeat (first | ((first | refine zd ?_ | refine zx ?_ | refine zk ?_ | refine zl ?_ | refine zr ?_); refine zq ?_) | refine zs ?_ | refine zh (by simp -implicitDefEqProofs (disch := (first | omega | (simp; done) | fail)) [if_pos, if_neg, wrap_i64, tmod_pos, tdiv_pos, Int.toNat_add, h60, h61]; rfl) ?_ | refine zb ?_ | refine zo ?_ | refine zt ?_ | refine zf ?_)
  clear h60 h61
  have k1 := cuts_one a b
  have k2 := cuts_two a b
  have k3 := cuts_three a
  have k4 := cuts_four a
  have k5 := cuts_five a b
  have l1 : (clean (sub a b)).length ≤ 60 := Nat.le_trans (clean_len _) (Nat.le_trans (sub_len _ _) ha)
  have l2 : (clean (sub a (clean (sub a b)))).length ≤ 60 := Nat.le_trans (clean_len _) (Nat.le_trans (sub_len _ _) ha)
  refine zp (callable_of Tryd.func24) _ (less2_ok a b .no .no (by omega) (by omega) _) ?_
  rintro _ _ ⟨rfl, rfl⟩
  generalize clean (sub a b) = d at *
  refine goes_eq (by simp -implicitDefEqProofs (disch := (first | omega | (simp; done) | fail)) [if_pos, if_neg, wrap_i64, tmod_pos, tdiv_pos, Int.toNat_add, lv]; rfl) ?_
  repeat (first | ((first | refine zd ?_ | refine zx ?_ | refine zk ?_ | refine zl ?_ | refine zr ?_); refine zq ?_) | refine zs ?_ | refine zg ?_ | refine zb ?_ | refine zo ?_ | refine zt ?_ | refine zf ?_)
  refine zp (callable_of Tryd.func24) _ (less2_ok a d .no .no (by omega) (by omega) _) ?_
  rintro _ _ ⟨rfl, rfl⟩
  generalize clean (sub a d) = e at *
  refine goes_eq (by simp -implicitDefEqProofs (disch := (first | omega | (simp; done) | fail)) [if_pos, if_neg, wrap_i64, tmod_pos, tdiv_pos, Int.toNat_add, lv]; rfl) ?_
  repeat (first | ((first | refine zd ?_ | refine zx ?_ | refine zk ?_ | refine zl ?_ | refine zr ?_); refine zq ?_) | refine zs ?_ | refine zg ?_ | refine zb ?_ | refine zo ?_ | refine zt ?_ | refine zf ?_)
  have m1 : (clean (d ++ e)).length ≤ 200 := Nat.le_trans (clean_len _) (by simp; omega)
  have m2 : (clean (sub d b)).length ≤ 60 := Nat.le_trans (clean_len _) (Nat.le_trans (sub_len _ _) l1)
  have m3 : (clean (sub a [])).length ≤ 60 := Nat.le_trans (clean_len _) (Nat.le_trans (sub_len _ _) ha)
  have c1 : ∀ h, ACalls Tryd.prog 26 [lv (clean (d ++ e)), lv a] h fun r h' => r = .bool true ∧ h' = h := fun h => by
    rw [← decide_eq_true k1]; exact same_ok _ _ .no .no (by omega) (by omega) h
  have c2 : ∀ h, ACalls Tryd.prog 26 [lv (clean (sub d b)), lv d] h fun r h' => r = .bool true ∧ h' = h := fun h => by
    rw [← decide_eq_true k2]; exact same_ok _ _ .no .no (by omega) (by omega) h
  have c3 : ∀ h, ACalls Tryd.prog 26 [lv (clean (sub a [])), lv a] h fun r h' => r = .bool true ∧ h' = h := fun h => by
    rw [← decide_eq_true k3]; exact same_ok _ _ .no .no (by omega) (by omega) h
  unfold lv at c1 c2 c3
  clear m1 m2 m3 k1 k2 k3
  refine zp (callable_of Tryd.func22) _ (union_ok d e .no .no (by omega) (by omega) _) ?_
  rintro _ _ ⟨rfl, rfl⟩
  generalize clean (d ++ e) = x1 at *
  refine goes_eq (by simp -implicitDefEqProofs (disch := (first | omega | (simp; done) | fail)) [if_pos, if_neg, wrap_i64, tmod_pos, tdiv_pos, Int.toNat_add, lv]; rfl) ?_
  refine zp (callable_of Tryd.func26) _ (c1 _) ?_
  rintro _ _ ⟨rfl, rfl⟩
  refine ze ?_
  refine zp (callable_of Tryd.func24) _ (less2_ok d b .no .no (by omega) (by omega) _) ?_
  rintro _ _ ⟨rfl, rfl⟩
  generalize clean (sub d b) = x2 at *
  refine goes_eq (by simp -implicitDefEqProofs (disch := (first | omega | (simp; done) | fail)) [if_pos, if_neg, wrap_i64, tmod_pos, tdiv_pos, Int.toNat_add, lv]; rfl) ?_
  refine zp (callable_of Tryd.func26) _ (c2 _) ?_
  rintro _ _ ⟨rfl, rfl⟩
  refine ze ?_
  refine zp (callable_of Tryd.func24) _ (less2_ok a [] .no .no (by omega) (by simp) _) ?_
  rintro _ _ ⟨rfl, rfl⟩
  generalize clean (sub a []) = x3 at *
  refine goes_eq (by simp -implicitDefEqProofs (disch := (first | omega | (simp; done) | fail)) [if_pos, if_neg, wrap_i64, tmod_pos, tdiv_pos, Int.toNat_add, lv]; rfl) ?_
  refine zp (callable_of Tryd.func26) _ (c3 _) ?_
  rintro _ _ ⟨rfl, rfl⟩
  refine ze ?_
  refine zp (callable_of Tryd.func24) _ (less2_ok a a .no .no (by omega) (by omega) _) ?_
  rintro _ _ ⟨rfl, rfl⟩
  rw [k4]
  refine goes_eq (by simp -implicitDefEqProofs (disch := (first | omega | (simp; done) | fail)) [if_pos, if_neg, wrap_i64, tmod_pos, tdiv_pos, Int.toNat_add, lv]; rfl) ?_
  refine zp (callable_of Tryd.func20) _ (clean_ok a .no (by omega) _) ?_
  rintro _ _ ⟨rfl, rfl⟩
  have k6 : (d.length : Int) + (e.length : Int) = ((clean a).length : Int) := by omega
  have hcl := clean_len a
  generalize clean a = x4 at *
  refine goes_eq (by simp -implicitDefEqProofs (disch := (first | omega | (simp; done) | fail)) [if_pos, if_neg, wrap_i64, tmod_pos, tdiv_pos, Int.toNat_add, lv, k6]; rfl) ?_
  repeat (first | ((first | refine zd ?_ | refine zx ?_ | refine zk ?_ | refine zl ?_ | refine zr ?_); refine zq ?_) | refine zs ?_ | refine zg ?_ | refine zb ?_ | refine zo ?_ | refine zt ?_ | refine zf ?_)
  first | refine zY (.inr rfl) ?_ | refine zY (.inl rfl) ?_
  simp
end Go.Proofs.YtcppoojgekaaoaaDoor.I

/- Sets of instances: laws: unions. -/
set_option linter.unusedVariables false
set_option linter.unusedSimpArgs false
set_option maxRecDepth 20000
namespace Go.Proofs.YtcppoojgekaaoaaDoor.I
open Go Go.Proofs.YtcppoojgekaaoaaDoor.V Go.RowKit
theorem un_mem (a b : List Iid) (x : Iid) : x ∈ clean (a ++ b) ↔ x ∈ a ∨ x ∈ b := by rw [clean_mem, List.mem_append]
theorem un_comm (a b : List Iid) : clean (clean (a ++ b)) = clean (clean (b ++ a)) := clean_ext fun x => by
  simp only [un_mem]
  exact or_comm
theorem un_assoc (a b c : List Iid) : clean (clean (clean (a ++ b) ++ c)) = clean (clean (a ++ clean (b ++ c))) := clean_ext fun x => by
  simp only [un_mem]
  exact or_assoc
theorem un_back (a b : List Iid) : clean (clean (clean (sub a b) ++ b)) = clean (clean (a ++ b)) := clean_ext fun x => by
  simp only [clean_mem, List.mem_append, sub_mem]
  by_cases h1 : x ∈ a <;> by_cases h2 : x ∈ b <;> simp [h1, h2]
theorem clean_clean (a : List Iid) : clean (clean a) = clean a := clean_ext fun x => clean_mem a x
theorem has_un (a b : List Iid) (x : Iid) : (clean (a ++ b)).contains x = (a.contains x || b.contains x) := by
  rw [Bool.eq_iff_iff]
  simp [un_mem]
theorem has_sub (a b : List Iid) (x : Iid) : (clean (sub a b)).contains x = (a.contains x && !b.contains x) := by
  rw [Bool.eq_iff_iff]
  simp [clean_mem, sub_mem]
theorem unions (a b c : List Iid) (x : Iid) (h : AHeap) : ACalls Tryd.prog 5 [lv a, lv b, lv c, Iid.av x] h fun r h' => r = .bool true ∧ h' = h := by
  have hh0 : ∀ (l : List Iid) h, l.length ≤ 1000 → ACalls Tryd.prog 17 [lv l, Iid.av x] h fun r h' => r = .bool (l.contains x) ∧ h' = h := fun l h hl => has_ok l x .no (by omega) h
  unfold lv
  simp only [Iid.av, Iid.c, lv] at hh0 ⊢
  refine acalls_of_awp Tryd.func5 rfl (by simp only [List.length_cons, List.length_nil]; decide) ?_
  simp only [params_cons, params_nil]
  refine awp_seq ?_
  refine zg ?_
  refine goes_done ?_
  (try simp only [vq, if_true, reduceIte, Nat.reduceEqDiff, reduceCtorEq])
  refine awp_hard (id := h.length) (by simp -implicitDefEqProofs; rfl) ?_
  simp -implicitDefEqProofs only [Slots.melt, AV.melt, Nat.add_left_cancel_iff, Nat.add_eq_left, Nat.left_eq_add, Nat.reduceEqDiff, reduceIte, Nat.succ_ne_self, Nat.one_ne_zero, Nat.zero_ne_one, List.set_append_right, List.set_append_left, Nat.sub_self, Nat.le_refl, Nat.add_sub_cancel_left, Nat.le_add_right, List.set_cons_zero, List.set_cons_succ]
  repeat (first | ((first | refine zd ?_ | refine zx ?_ | refine zk ?_ | refine zl ?_ | refine zr ?_); refine zq ?_) | refine zs ?_ | refine zg ?_ | refine zb ?_ | refine zo ?_ | refine zt ?_ | refine zf ?_)
  refine zp (callable_of Tryd.func8) _ (works_ok _) ?_
  rintro _ h1 ⟨rfl, rfl⟩
  refine ze ?_
  by_cases h60 : (60 : Int) < (a.length : Int)
  · repeat (first | ((first | refine zd ?_ | refine zx ?_ | refine zk ?_ | refine zl ?_ | refine zr ?_); refine zq ?_) | refine zs ?_ | refine zh (by simp -implicitDefEqProofs (disch := (first | omega | (simp; done) | fail)) [if_pos, if_neg, wrap_i64, tmod_pos, tdiv_pos, Int.toNat_add, h60]; rfl) ?_ | refine zb ?_ | refine zo ?_ | refine zt ?_ | refine zf ?_)
    first | refine zy (.inr rfl) ?_ | refine zy (.inl rfl) ?_
    simp
  by_cases h61 : (60 : Int) < (b.length : Int)
  · repeat (first | ((first | refine zd ?_ | refine zx ?_ | refine zk ?_ | refine zl ?_ | refine zr ?_); refine zq ?_) | refine zs ?_ | refine zh (by simp -implicitDefEqProofs (disch := (first | omega | (simp; done) | fail)) [if_pos, if_neg, wrap_i64, tmod_pos, tdiv_pos, Int.toNat_add, h60, h61]; rfl) ?_ | refine zb ?_ | refine zo ?_ | refine zt ?_ | refine zf ?_)
    first | refine zy (.inr rfl) ?_ | refine zy (.inl rfl) ?_
    simp
  by_cases h62 : (60 : Int) < (c.length : Int)
  · repeat (first | ((first | refine zd ?_ | refine zx ?_ | refine zk ?_ | refine zl ?_ | refine zr ?_); refine zq ?_) | refine zs ?_ | refine zh (by simp -implicitDefEqProofs (disch := (first | omega | (simp; done) | fail)) [if_pos, if_neg, wrap_i64, tmod_pos, tdiv_pos, Int.toNat_add, h60, h61, h62]; rfl) ?_ | refine zb ?_ | refine zo ?_ | refine zt ?_ | refine zf ?_)
    first | refine zy (.inr rfl) ?_ | refine zy (.inl rfl) ?_
    simp
  have ha := le60 h60
  have hb := le60 h61
  have hc := le60 h62
  repeat (first | ((first | refine zd ?_ | refine zx ?_ | refine zk ?_ | refine zl ?_ | refine zr ?_); refine zq ?_) | refine zs ?_ | refine zh (by simp -implicitDefEqProofs (disch := (first | omega | (simp; done) | fail)) [if_pos, if_neg, wrap_i64, tmod_pos, tdiv_pos, Int.toNat_add, h60, h61, h62]; rfl) ?_ | refine zb ?_ | refine zo ?_ | refine zt ?_ | refine zf ?_)
  clear h60 h61 h62
  have lu : (clean (a ++ b)).length ≤ 120 := Nat.le_trans (clean_len _) (by simp; omega)
  have ld : (clean (sub a b)).length ≤ 60 := Nat.le_trans (clean_len _) (Nat.le_trans (sub_len _ _) ha)
  have lba : (clean (b ++ a)).length ≤ 120 := Nat.le_trans (clean_len _) (by simp; omega)
  have lbc : (clean (b ++ c)).length ≤ 120 := Nat.le_trans (clean_len _) (by simp; omega)
  have luc : (clean (clean (a ++ b) ++ c)).length ≤ 180 := Nat.le_trans (clean_len _) (by simp; omega)
  have lab : (clean (a ++ clean (b ++ c))).length ≤ 180 := Nat.le_trans (clean_len _) (by simp; omega)
  have ldb : (clean (clean (sub a b) ++ b)).length ≤ 120 := Nat.le_trans (clean_len _) (by simp; omega)
  have lca : (clean a).length ≤ 60 := Nat.le_trans (clean_len _) ha
  have u1 : ∀ h, ACalls Tryd.prog 22 [lv a, lv b] h fun r h' => r = lv (clean (a ++ b)) ∧ h' = h := fun h => union_ok _ _ .no .no (by omega) (by omega) h
  have d1 : ∀ h, ACalls Tryd.prog 24 [lv a, lv b] h fun r h' => r = lv (clean (sub a b)) ∧ h' = h := fun h => less2_ok _ _ .no .no (by omega) (by omega) h
  have u2 : ∀ h, ACalls Tryd.prog 22 [lv b, lv a] h fun r h' => r = lv (clean (b ++ a)) ∧ h' = h := fun h => union_ok _ _ .no .no (by omega) (by omega) h
  have u3 : ∀ h, ACalls Tryd.prog 22 [lv (clean (a ++ b)), lv c] h fun r h' => r = lv (clean (clean (a ++ b) ++ c)) ∧ h' = h := fun h => union_ok _ _ .no .no (by omega) (by omega) h
  have u4 : ∀ h, ACalls Tryd.prog 22 [lv b, lv c] h fun r h' => r = lv (clean (b ++ c)) ∧ h' = h := fun h => union_ok _ _ .no .no (by omega) (by omega) h
  have u7 : ∀ h, ACalls Tryd.prog 22 [lv a, lv (clean (b ++ c))] h fun r h' => r = lv (clean (a ++ clean (b ++ c))) ∧ h' = h := fun h => union_ok _ _ .no .no (by omega) (by omega) h
  have u5 : ∀ h, ACalls Tryd.prog 22 [lv (clean (sub a b)), lv b] h fun r h' => r = lv (clean (clean (sub a b) ++ b)) ∧ h' = h := fun h => union_ok _ _ .no .no (by omega) (by omega) h
  have u6 : ∀ h, ACalls Tryd.prog 20 [lv a] h fun r h' => r = lv (clean a) ∧ h' = h := fun h => clean_ok _ .no (by omega) h
  have s1 : ∀ h, ACalls Tryd.prog 26 [lv (clean (a ++ b)), lv (clean (b ++ a))] h fun r h' => r = .bool true ∧ h' = h := fun h => by
    rw [← decide_eq_true (un_comm a b)]; exact same_ok _ _ .no .no (by omega) (by omega) h
  have s2 : ∀ h, ACalls Tryd.prog 26 [lv (clean (clean (a ++ b) ++ c)), lv (clean (a ++ clean (b ++ c)))] h fun r h' => r = .bool true ∧ h' = h := fun h => by
    rw [← decide_eq_true (un_assoc a b c)]; exact same_ok _ _ .no .no (by omega) (by omega) h
  have s3 : ∀ h, ACalls Tryd.prog 26 [lv (clean (clean (sub a b) ++ b)), lv (clean (a ++ b))] h fun r h' => r = .bool true ∧ h' = h := fun h => by
    rw [← decide_eq_true (un_back a b)]; exact same_ok _ _ .no .no (by omega) (by omega) h
  have s4 : ∀ h, ACalls Tryd.prog 26 [lv (clean a), lv a] h fun r h' => r = .bool true ∧ h' = h := fun h => by
    rw [← decide_eq_true (clean_clean a)]; exact same_ok _ _ .no .no (by omega) (by omega) h
  have ru : ∀ h, ACalls Tryd.prog 15 [lv (clean (a ++ b))] h fun r h' => r = .bool true ∧ h' = h := fun h => by
    have := right_ok (clean (a ++ b)) .no (by omega) h
    rwa [right_ris, decide_eq_true (clean_ris _)] at this
  have rd : ∀ h, ACalls Tryd.prog 15 [lv (clean (sub a b))] h fun r h' => r = .bool true ∧ h' = h := fun h => by
    have := right_ok (clean (sub a b)) .no (by omega) h
    rwa [right_ris, decide_eq_true (clean_ris _)] at this
  have ha1 := fun h => hh0 a h (by omega)
  have hb1 := fun h => hh0 b h (by omega)
  have hu1 := fun h => hh0 (clean (a ++ b)) h (by omega)
  have hd1 := fun h => hh0 (clean (sub a b)) h (by omega)
  rw [has_un] at hu1
  rw [has_sub] at hd1
  clear lu ld lba lbc luc lab ldb lca hh0 ha hb hc
  generalize clean (clean (a ++ b) ++ c) = uc at *
  generalize clean (a ++ clean (b ++ c)) = abc at *
  generalize clean (clean (sub a b) ++ b) = db at *
  generalize clean (a ++ b) = u at *
  generalize clean (sub a b) = d at *
  generalize clean (b ++ a) = ba at *
  generalize clean (b ++ c) = bc at *
  generalize clean a = ca at *
  generalize a.contains x = p at *
  generalize b.contains x = q at *
  unfold lv at *
  refine zp (callable_of Tryd.func22) _ (u1 _) ?_
  rintro _ _ ⟨rfl, rfl⟩
  refine goes_eq (by simp -implicitDefEqProofs (disch := (first | omega | (simp; done) | fail)) [if_pos, if_neg, wrap_i64, tmod_pos, tdiv_pos, Int.toNat_add, lv]; rfl) ?_
  repeat (first | ((first | refine zd ?_ | refine zx ?_ | refine zk ?_ | refine zl ?_ | refine zr ?_); refine zq ?_) | refine zs ?_ | refine zg ?_ | refine zb ?_ | refine zo ?_ | refine zt ?_ | refine zf ?_)
  refine zp (callable_of Tryd.func24) _ (d1 _) ?_
  rintro _ _ ⟨rfl, rfl⟩
  refine goes_eq (by simp -implicitDefEqProofs (disch := (first | omega | (simp; done) | fail)) [if_pos, if_neg, wrap_i64, tmod_pos, tdiv_pos, Int.toNat_add, lv]; rfl) ?_
  repeat (first | ((first | refine zd ?_ | refine zx ?_ | refine zk ?_ | refine zl ?_ | refine zr ?_); refine zq ?_) | refine zs ?_ | refine zg ?_ | refine zb ?_ | refine zo ?_ | refine zt ?_ | refine zf ?_)
  refine zp (callable_of Tryd.func22) _ (u2 _) ?_
  rintro _ _ ⟨rfl, rfl⟩
  refine goes_eq (by simp -implicitDefEqProofs (disch := (first | omega | (simp; done) | fail)) [if_pos, if_neg, wrap_i64, tmod_pos, tdiv_pos, Int.toNat_add, lv]; rfl) ?_
  refine zp (callable_of Tryd.func26) _ (s1 _) ?_
  rintro _ _ ⟨rfl, rfl⟩
  refine goes_eq (by simp -implicitDefEqProofs (disch := (first | omega | (simp; done) | fail)) [if_pos, if_neg, wrap_i64, tmod_pos, tdiv_pos, Int.toNat_add, lv]; rfl) ?_
  refine zp (callable_of Tryd.func22) _ (u3 _) ?_
  rintro _ _ ⟨rfl, rfl⟩
  refine goes_eq (by simp -implicitDefEqProofs (disch := (first | omega | (simp; done) | fail)) [if_pos, if_neg, wrap_i64, tmod_pos, tdiv_pos, Int.toNat_add, lv]; rfl) ?_
  refine zp (callable_of Tryd.func22) _ (u4 _) ?_
  rintro _ _ ⟨rfl, rfl⟩
  refine goes_eq (by simp -implicitDefEqProofs (disch := (first | omega | (simp; done) | fail)) [if_pos, if_neg, wrap_i64, tmod_pos, tdiv_pos, Int.toNat_add, lv]; rfl) ?_
  refine zp (callable_of Tryd.func22) _ (u7 _) ?_
  rintro _ _ ⟨rfl, rfl⟩
  refine goes_eq (by simp -implicitDefEqProofs (disch := (first | omega | (simp; done) | fail)) [if_pos, if_neg, wrap_i64, tmod_pos, tdiv_pos, Int.toNat_add, lv]; rfl) ?_
  refine zp (callable_of Tryd.func26) _ (s2 _) ?_
  rintro _ _ ⟨rfl, rfl⟩
  refine goes_eq (by simp -implicitDefEqProofs (disch := (first | omega | (simp; done) | fail)) [if_pos, if_neg, wrap_i64, tmod_pos, tdiv_pos, Int.toNat_add, lv]; rfl) ?_
  refine zp (callable_of Tryd.func15) _ (ru _) ?_
  rintro _ _ ⟨rfl, rfl⟩
  refine goes_eq (by simp -implicitDefEqProofs (disch := (first | omega | (simp; done) | fail)) [if_pos, if_neg, wrap_i64, tmod_pos, tdiv_pos, Int.toNat_add, lv]; rfl) ?_
  refine zp (callable_of Tryd.func15) _ (rd _) ?_
  rintro _ _ ⟨rfl, rfl⟩
  refine goes_eq (by simp -implicitDefEqProofs (disch := (first | omega | (simp; done) | fail)) [if_pos, if_neg, wrap_i64, tmod_pos, tdiv_pos, Int.toNat_add, lv]; rfl) ?_
  repeat (first | ((first | refine zd ?_ | refine zx ?_ | refine zk ?_ | refine zl ?_ | refine zr ?_); refine zq ?_) | refine zs ?_ | refine zg ?_ | refine zb ?_ | refine zo ?_ | refine zt ?_ | refine zf ?_)
  refine awp_draw (.q 0 (.q 1 (.q 3 (.q 4 (.a 2 (.a 5 (.q 6 (.q 7 (.q 8 (.a 9 (.q 10 (.q 11 (.q 12 (.q 13 (.q 14 (.q 16 (.q 17 (.a 15 (.a 18 (.q 19 (.q 20 (.q 21 (.a 22 (.q 23 (.q 24 (.q 25 (.q 26 (.q 27 (.done))))))))))))))))))))))))))))) (by kernel_rfl) (by kernel_rfl) (tree_start (goesT_eq (by simp -implicitDefEqProofs (disch := (first | omega | (simp; done) | fail)) [if_pos, if_neg, wrap_i64, tmod_pos, tdiv_pos, Int.toNat_add]; rfl) ?_))
  refine zP (callable_of Tryd.func17) _ (hu1 _) ?_
  rintro _ _ ⟨rfl, rfl⟩
  refine zE ?_
  cases p with
  | true =>
    refine zP (callable_of Tryd.func17) _ (ha1 _) ?_
    rintro _ _ ⟨rfl, rfl⟩
    refine zE ?_
    cases q with
    | true =>
      refine zP (callable_of Tryd.func17) _ (hd1 _) ?_
      rintro _ _ ⟨rfl, rfl⟩
      refine zE ?_
      refine zP (callable_of Tryd.func17) _ (ha1 _) ?_
      rintro _ _ ⟨rfl, rfl⟩
      refine zE ?_
      refine zP (callable_of Tryd.func17) _ (hb1 _) ?_
      rintro _ _ ⟨rfl, rfl⟩
      refine zE ?_
      refine goesT_done ?_
      (try simp only [vq, if_true, reduceIte, Nat.reduceEqDiff, reduceCtorEq])
      repeat (first | ((first | refine zd ?_ | refine zx ?_ | refine zk ?_ | refine zl ?_ | refine zr ?_); refine zq ?_) | refine zs ?_ | refine zg ?_ | refine zb ?_ | refine zo ?_ | refine zt ?_ | refine zf ?_)
      refine zp (callable_of Tryd.func22) _ (u5 _) ?_
      rintro _ _ ⟨rfl, rfl⟩
      refine goes_eq (by simp -implicitDefEqProofs (disch := (first | omega | (simp; done) | fail)) [if_pos, if_neg, wrap_i64, tmod_pos, tdiv_pos, Int.toNat_add, lv]; rfl) ?_
      refine zp (callable_of Tryd.func26) _ (s3 _) ?_
      rintro _ _ ⟨rfl, rfl⟩
      refine goes_eq (by simp -implicitDefEqProofs (disch := (first | omega | (simp; done) | fail)) [if_pos, if_neg, wrap_i64, tmod_pos, tdiv_pos, Int.toNat_add, lv]; rfl) ?_
      refine zp (callable_of Tryd.func20) _ (u6 _) ?_
      rintro _ _ ⟨rfl, rfl⟩
      refine goes_eq (by simp -implicitDefEqProofs (disch := (first | omega | (simp; done) | fail)) [if_pos, if_neg, wrap_i64, tmod_pos, tdiv_pos, Int.toNat_add, lv]; rfl) ?_
      refine zp (callable_of Tryd.func26) _ (s4 _) ?_
      rintro _ _ ⟨rfl, rfl⟩
      refine goes_eq (by simp -implicitDefEqProofs (disch := (first | omega | (simp; done) | fail)) [if_pos, if_neg, wrap_i64, tmod_pos, tdiv_pos, Int.toNat_add, lv]; rfl) ?_
      repeat (first | ((first | refine zd ?_ | refine zx ?_ | refine zk ?_ | refine zl ?_ | refine zr ?_); refine zq ?_) | refine zs ?_ | refine zg ?_ | refine zb ?_ | refine zo ?_ | refine zt ?_ | refine zf ?_)
      first | refine zy (.inr rfl) ?_ | refine zy (.inl rfl) ?_
      simp
    | false =>
      refine zP (callable_of Tryd.func17) _ (hd1 _) ?_
      rintro _ _ ⟨rfl, rfl⟩
      refine zE ?_
      refine zP (callable_of Tryd.func17) _ (ha1 _) ?_
      rintro _ _ ⟨rfl, rfl⟩
      refine zE ?_
      refine zP (callable_of Tryd.func17) _ (hb1 _) ?_
      rintro _ _ ⟨rfl, rfl⟩
      refine zE ?_
      refine goesT_done ?_
      (try simp only [vq, if_true, reduceIte, Nat.reduceEqDiff, reduceCtorEq])
      repeat (first | ((first | refine zd ?_ | refine zx ?_ | refine zk ?_ | refine zl ?_ | refine zr ?_); refine zq ?_) | refine zs ?_ | refine zg ?_ | refine zb ?_ | refine zo ?_ | refine zt ?_ | refine zf ?_)
      refine zp (callable_of Tryd.func22) _ (u5 _) ?_
      rintro _ _ ⟨rfl, rfl⟩
      refine goes_eq (by simp -implicitDefEqProofs (disch := (first | omega | (simp; done) | fail)) [if_pos, if_neg, wrap_i64, tmod_pos, tdiv_pos, Int.toNat_add, lv]; rfl) ?_
      refine zp (callable_of Tryd.func26) _ (s3 _) ?_
      rintro _ _ ⟨rfl, rfl⟩
      refine goes_eq (by simp -implicitDefEqProofs (disch := (first | omega | (simp; done) | fail)) [if_pos, if_neg, wrap_i64, tmod_pos, tdiv_pos, Int.toNat_add, lv]; rfl) ?_
      refine zp (callable_of Tryd.func20) _ (u6 _) ?_
      rintro _ _ ⟨rfl, rfl⟩
      refine goes_eq (by simp -implicitDefEqProofs (disch := (first | omega | (simp; done) | fail)) [if_pos, if_neg, wrap_i64, tmod_pos, tdiv_pos, Int.toNat_add, lv]; rfl) ?_
      refine zp (callable_of Tryd.func26) _ (s4 _) ?_
      rintro _ _ ⟨rfl, rfl⟩
      refine goes_eq (by simp -implicitDefEqProofs (disch := (first | omega | (simp; done) | fail)) [if_pos, if_neg, wrap_i64, tmod_pos, tdiv_pos, Int.toNat_add, lv]; rfl) ?_
      repeat (first | ((first | refine zd ?_ | refine zx ?_ | refine zk ?_ | refine zl ?_ | refine zr ?_); refine zq ?_) | refine zs ?_ | refine zg ?_ | refine zb ?_ | refine zo ?_ | refine zt ?_ | refine zf ?_)
      first | refine zy (.inr rfl) ?_ | refine zy (.inl rfl) ?_
      simp
  | false =>
    refine zP (callable_of Tryd.func17) _ (ha1 _) ?_
    rintro _ _ ⟨rfl, rfl⟩
    refine zE ?_
    cases q with
    | true =>
      refine zP (callable_of Tryd.func17) _ (hb1 _) ?_
      rintro _ _ ⟨rfl, rfl⟩
      refine zE ?_
      refine zP (callable_of Tryd.func17) _ (hd1 _) ?_
      rintro _ _ ⟨rfl, rfl⟩
      refine zE ?_
      refine zP (callable_of Tryd.func17) _ (ha1 _) ?_
      rintro _ _ ⟨rfl, rfl⟩
      refine zE ?_
      refine goesT_done ?_
      (try simp only [vq, if_true, reduceIte, Nat.reduceEqDiff, reduceCtorEq])
      repeat (first | ((first | refine zd ?_ | refine zx ?_ | refine zk ?_ | refine zl ?_ | refine zr ?_); refine zq ?_) | refine zs ?_ | refine zg ?_ | refine zb ?_ | refine zo ?_ | refine zt ?_ | refine zf ?_)
      refine zp (callable_of Tryd.func22) _ (u5 _) ?_
      rintro _ _ ⟨rfl, rfl⟩
      refine goes_eq (by simp -implicitDefEqProofs (disch := (first | omega | (simp; done) | fail)) [if_pos, if_neg, wrap_i64, tmod_pos, tdiv_pos, Int.toNat_add, lv]; rfl) ?_
      refine zp (callable_of Tryd.func26) _ (s3 _) ?_
      rintro _ _ ⟨rfl, rfl⟩
      refine goes_eq (by simp -implicitDefEqProofs (disch := (first | omega | (simp; done) | fail)) [if_pos, if_neg, wrap_i64, tmod_pos, tdiv_pos, Int.toNat_add, lv]; rfl) ?_
      refine zp (callable_of Tryd.func20) _ (u6 _) ?_
      rintro _ _ ⟨rfl, rfl⟩
      refine goes_eq (by simp -implicitDefEqProofs (disch := (first | omega | (simp; done) | fail)) [if_pos, if_neg, wrap_i64, tmod_pos, tdiv_pos, Int.toNat_add, lv]; rfl) ?_
      refine zp (callable_of Tryd.func26) _ (s4 _) ?_
      rintro _ _ ⟨rfl, rfl⟩
      refine goes_eq (by simp -implicitDefEqProofs (disch := (first | omega | (simp; done) | fail)) [if_pos, if_neg, wrap_i64, tmod_pos, tdiv_pos, Int.toNat_add, lv]; rfl) ?_
      repeat (first | ((first | refine zd ?_ | refine zx ?_ | refine zk ?_ | refine zl ?_ | refine zr ?_); refine zq ?_) | refine zs ?_ | refine zg ?_ | refine zb ?_ | refine zo ?_ | refine zt ?_ | refine zf ?_)
      first | refine zy (.inr rfl) ?_ | refine zy (.inl rfl) ?_
      simp
    | false =>
      refine zP (callable_of Tryd.func17) _ (hb1 _) ?_
      rintro _ _ ⟨rfl, rfl⟩
      refine zE ?_
      refine zP (callable_of Tryd.func17) _ (hd1 _) ?_
      rintro _ _ ⟨rfl, rfl⟩
      refine zE ?_
      refine zP (callable_of Tryd.func17) _ (ha1 _) ?_
      rintro _ _ ⟨rfl, rfl⟩
      refine zE ?_
      refine goesT_done ?_
      (try simp only [vq, if_true, reduceIte, Nat.reduceEqDiff, reduceCtorEq])
      repeat (first | ((first | refine zd ?_ | refine zx ?_ | refine zk ?_ | refine zl ?_ | refine zr ?_); refine zq ?_) | refine zs ?_ | refine zg ?_ | refine zb ?_ | refine zo ?_ | refine zt ?_ | refine zf ?_)
      refine zp (callable_of Tryd.func22) _ (u5 _) ?_
      rintro _ _ ⟨rfl, rfl⟩
      refine goes_eq (by simp -implicitDefEqProofs (disch := (first | omega | (simp; done) | fail)) [if_pos, if_neg, wrap_i64, tmod_pos, tdiv_pos, Int.toNat_add, lv]; rfl) ?_
      refine zp (callable_of Tryd.func26) _ (s3 _) ?_
      rintro _ _ ⟨rfl, rfl⟩
      refine goes_eq (by simp -implicitDefEqProofs (disch := (first | omega | (simp; done) | fail)) [if_pos, if_neg, wrap_i64, tmod_pos, tdiv_pos, Int.toNat_add, lv]; rfl) ?_
      refine zp (callable_of Tryd.func20) _ (u6 _) ?_
      rintro _ _ ⟨rfl, rfl⟩
      refine goes_eq (by simp -implicitDefEqProofs (disch := (first | omega | (simp; done) | fail)) [if_pos, if_neg, wrap_i64, tmod_pos, tdiv_pos, Int.toNat_add, lv]; rfl) ?_
      refine zp (callable_of Tryd.func26) _ (s4 _) ?_
      rintro _ _ ⟨rfl, rfl⟩
      refine goes_eq (by simp -implicitDefEqProofs (disch := (first | omega | (simp; done) | fail)) [if_pos, if_neg, wrap_i64, tmod_pos, tdiv_pos, Int.toNat_add, lv]; rfl) ?_
      repeat (first | ((first | refine zd ?_ | refine zx ?_ | refine zk ?_ | refine zl ?_ | refine zr ?_); refine zq ?_) | refine zs ?_ | refine zg ?_ | refine zb ?_ | refine zo ?_ | refine zt ?_ | refine zf ?_)
      first | refine zy (.inr rfl) ?_ | refine zy (.inl rfl) ?_
      simp
end Go.Proofs.YtcppoojgekaaoaaDoor.I

/- Sets of instances: how plain data comes in; walks of laws. -/
set_option linter.unusedVariables false
set_option linter.unusedSimpArgs false
namespace Go.Proofs.YtcppoojgekaaoaaDoor.I
open Go Go.Proofs.YtcppoojgekaaoaaDoor.V Go.RowKit
def IdAt (w : World) (x : Value) : Prop := ∃ a : Iid, VRel (g0 w) (Iid.av a) x ∧ (Lit.int .i64 a.e).wf = true ∧ (Lit.int .i64 a.n).wf = true ∧ (Lit.int .i64 a.o).wf = true
def IdsAt (w : World) (x : Value) : Prop := ∃ l : List Iid, VRel (g0 w) (lv l) x
theorem vopens_id : VOpens Tryd.prog 23 Iid.c (fun a => (Lit.int .i64 a.e).wf = true ∧ (Lit.int .i64 a.n).wf = true ∧ (Lit.int .i64 a.o).wf = true) :=
  vopens_map (fun p : Int × Int × Int × Unit => Iid.mk p.1 p.2.1 p.2.2.1)
    (vopens_struct Tryd.underlying23 (by kernel_rfl) (fopens_cons (k := 1) rfl (by kernel_rfl) (vopens_int Tryd.underlying3) (fopens_cons (k := 1) rfl (by kernel_rfl) (vopens_int Tryd.underlying3) (fopens_cons (k := 1) rfl (by kernel_rfl) (vopens_int Tryd.underlying3) fopens_nil))))
    (fun _ => rfl) (fun _ h => ⟨h.1, h.2.1, h.2.2.1⟩)
theorem open_api_ID {H : Type} {enc : TypeId × Value → H} {w : World} {v : Value} {d : DataW H} {p : List MemPlace} {r : Reach} {b0 : Nat} (hv : Value.okWide Tryd.prog w r b0 23 v) (h : DataW.Trod enc Tryd.prog w 0 (fun _ => true) true 23 v d p) (hnf : w.noneFrozen p) : ∃ x : Came, v = x.v ∧ IdAt w x.v :=
  ⟨⟨v⟩, rfl, by
    obtain ⟨a, hg, hr⟩ := vopen_st Tryd.underlying23 vopens_id hv h hnf
    exact ⟨a, hr, hg⟩⟩
theorem open_Sl_api_ID {H : Type} {enc : TypeId × Value → H} {w : World} {v : Value} {d : DataW H} {p : List MemPlace} {r : Reach} {b0 : Nat} (hv : Value.okWide Tryd.prog w r b0 24 v) (h : DataW.Trod enc Tryd.prog w 0 (fun _ => true) true 24 v d p) (hnf : w.noneFrozen p) : ∃ x : Came, v = x.v ∧ IdsAt w x.v :=
  ⟨⟨v⟩, rfl, by
    obtain ⟨l, hg, hr⟩ := vopen_sl Tryd.underlying24 (vopens_sl (sz := 3) Tryd.underlying24 (by kernel_rfl) (by decide) vopens_id Iid.av (fun _ => rfl) (fun _ => rfl)) hv h hnf
    exact ⟨l, hr⟩⟩
theorem walk_IdsCuts (x0 : Came) {w : World} (f0 : IdsAt w x0.v) (x1 : Came) (f1 : IdsAt w x1.v) :
    Calls Tryd.prog 7 #[x0.v, x1.v] w fun e w' => e = .returned (.bool true) ∧ Below w.heap.size w w' := by
  obtain ⟨a, ha⟩ := f0
  obtain ⟨b, hb⟩ := f1
  exact Law.calls (cuts a b []) w (vals_of (cells_cons ha (cells_cons hb (cells_nil _))))
theorem walk_IdsUnions (x0 : Came) {w : World} (f0 : IdsAt w x0.v) (x1 : Came) (f1 : IdsAt w x1.v) (x2 : Came) (f2 : IdsAt w x2.v) (x3 : Came) (f3 : IdAt w x3.v) :
    Calls Tryd.prog 5 #[x0.v, x1.v, x2.v, x3.v] w fun e w' => e = .returned (.bool true) ∧ Below w.heap.size w w' := by
  obtain ⟨a, ha⟩ := f0
  obtain ⟨b, hb⟩ := f1
  obtain ⟨c, hc⟩ := f2
  obtain ⟨x, hx, -⟩ := f3
  exact Law.calls (unions a b c x []) w (vals_of (cells_cons ha (cells_cons hb (cells_cons hc (cells_cons hx (cells_nil _))))))
end Go.Proofs.YtcppoojgekaaoaaDoor.I
