/- Frames: what is put is taken; the document's example. -/
import Derived.Test.YtkmoigfibipimaaF3
set_option linter.unusedVariables false
set_option linter.unusedSimpArgs false
set_option maxRecDepth 20000
namespace Go.Proofs.Ytkmoigfibipimaa.F
open Go Go.Proofs.Ytkmoigfibipimaa.V
attribute [-simp] List.map_take List.map_drop
attribute [local simp] take_map drop_map List.take_take
theorem num_le4 (n : Nat) (h : n < 4294967296) (r : List UInt8) : num (le4 n ++ r) = n := by
  unfold num le4
  simp only [List.cons_append, List.nil_append, List.getD_cons_zero, List.getD_cons_succ, b8n_toNat]
  omega
theorem fr_length (l : List UInt8) : (fr l).length = 8 + l.length := by simp [fr]; omega
theorem takeB_fr (l r : List UInt8) (hl : l.length ≤ 16777215) : takeB (fr l ++ r) = (l, 8 + l.length, 0) := by
  have e0 : num (fr l ++ r) = l.length := by
    have : fr l ++ r = le4 l.length ++ (le4 (crcN l) ++ l ++ r) := by simp [fr]
    rw [this, num_le4 _ (by omega)]
  have e1 : (fr l ++ r).drop 4 = le4 (crcN l) ++ (l ++ r) := by simp [fr, le4]
  have e2 : (fr l ++ r).drop 8 = l ++ r := by simp [fr, le4]
  rw [takeB_4 (by simp [fr_length]; omega) (by omega) (by simp [fr_length]; omega)]
  · rw [e0, e2]; simp
  · rw [e0, e1, e2, num_le4 _ (crcN_lt l)]; simp
def frs (l : List (List UInt8)) : List UInt8 := l.flatMap fr
theorem frs_cons (x : List UInt8) (l : List (List UInt8)) : frs (x :: l) = fr x ++ frs l := rfl
theorem frs_app (k l : List (List UInt8)) : frs (k ++ l) = frs k ++ frs l := by simp [frs]
theorem allB_frs : ∀ (l : List (List UInt8)) (r : List UInt8), (∀ x ∈ l, x.length ≤ 16777215) → allB (frs l ++ r) = (l ++ (allB r).1, (frs l).length + (allB r).2)
  | [], r, h => by simp [frs]
  | x :: l, r, h => by
    have ht := takeB_fr x (frs l ++ r) (h x (by simp))
    rw [frs_cons, List.append_assoc, allB_step (by rw [ht]), ht]
    have hd : (fr x ++ (frs l ++ r)).drop (8 + x.length) = frs l ++ r := by
      rw [← fr_length]; simp
    simp only [hd]
    rw [allB_frs l r fun y hy => h y (by simp [hy])]
    simp [fr_length]; omega
theorem crcN_nil : crcN [] = 0 := rfl
theorem fr_nil : fr [] = List.replicate 8 0 := by simp [fr, crcN_nil, le4, b8n]
theorem allB_nil : allB [] = ([], 0) := allB_stop (by rw [takeB_1 (by simp)]; simp)
theorem works_ok (h : AHeap) : ACalls Try.prog 9 [] h fun r h' => r = .bool true ∧ h' = h := by
  have e1 : takeB (fr [] ++ [1, 2]) = ([], 8, 0) := takeB_fr [] [1, 2] (by simp)
  have e2 : allB (fr [] ++ fr []) = ([[], []], 16) := by
    have := allB_frs [[], []] [] (by simp)
    simpa [frs, allB_nil, fr_length] using this
  have e3 := bytesOf_map (List.replicate 8 0)
  have e4 : (fr []).length = 8 := rfl
  simp [b8] at e3
  have e5 : (fr [] == [0, 0, 0, 0, 0, 0, 0, 0]) = true := by rw [fr_nil]; rfl
  refine acalls_of_awp Try.func9 rfl (by simp only [List.length_cons, List.length_nil]; decide) ?_
  simp only [params_cons, params_nil]
  repeat (first | (refine goes_done ?_; (try simp only [then_normal, then_exit, then_ret, block_normal, block_ret, block_exit, scope_normal, scope_ret, scope_exit, if_true, reduceIte, Nat.reduceEqDiff, reduceCtorEq])) | refine awp_seq ?_ | refine awp_region' (run_start (goes_eq (by simp (disch := (first | omega | (simp; done) | fail)) [if_pos, if_neg, wrap_i64, tmod_pos, tdiv_pos, Int.toNat_add]; rfl) ?_)) | refine awp_block ?_ | refine awp_scope ?_ | (refine awp_exit ?_; (try simp only [then_normal, then_exit, then_ret, block_normal, block_ret, block_exit, scope_normal, scope_ret, scope_exit, if_true, reduceIte, Nat.reduceEqDiff, reduceCtorEq])) | (refine awp_skip ?_; (try simp only [then_normal, then_exit, then_ret, block_normal, block_ret, block_exit, scope_normal, scope_ret, scope_exit, if_true, reduceIte, Nat.reduceEqDiff, reduceCtorEq])) | (refine awp_label ?_; (try simp only [then_normal, then_exit, then_ret, block_normal, block_ret, block_exit, scope_normal, scope_ret, scope_exit, if_true, reduceIte, Nat.reduceEqDiff, reduceCtorEq])) | (refine awp_ret ?_; (try simp only [then_normal, then_exit, then_ret, block_normal, block_ret, block_exit, scope_normal, scope_ret, scope_exit, if_true, reduceIte, Nat.reduceEqDiff, reduceCtorEq])) | refine awp_cond_t rfl ?_ | refine awp_cond_f rfl ?_)
  refine goes_callS (callable_of Try.func10) (by simp (disch := (first | omega | (simp; done) | fail)) [if_pos, if_neg, wrap_i64, tmod_pos, tdiv_pos, Int.toNat_add] <;> first | rfl | omega) _ (put_ok [] .no (by simp) _) ?_
  rintro _ _ ⟨rfl, rfl⟩
  refine goes_eq (by simp (disch := (first | omega | (simp; done) | fail)) [if_pos, if_neg, wrap_i64, tmod_pos, tdiv_pos, Int.toNat_add]; rfl) ?_
  repeat (first | (refine goes_done ?_; (try simp only [then_normal, then_exit, then_ret, block_normal, block_ret, block_exit, scope_normal, scope_ret, scope_exit, if_true, reduceIte, Nat.reduceEqDiff, reduceCtorEq])) | refine awp_seq ?_ | refine awp_region' (run_start (goes_eq (by simp (disch := (first | omega | (simp; done) | fail)) [if_pos, if_neg, wrap_i64, tmod_pos, tdiv_pos, Int.toNat_add, e4]; rfl) ?_)) | refine awp_block ?_ | refine awp_scope ?_ | (refine awp_exit ?_; (try simp only [then_normal, then_exit, then_ret, block_normal, block_ret, block_exit, scope_normal, scope_ret, scope_exit, if_true, reduceIte, Nat.reduceEqDiff, reduceCtorEq])) | (refine awp_skip ?_; (try simp only [then_normal, then_exit, then_ret, block_normal, block_ret, block_exit, scope_normal, scope_ret, scope_exit, if_true, reduceIte, Nat.reduceEqDiff, reduceCtorEq])) | (refine awp_label ?_; (try simp only [then_normal, then_exit, then_ret, block_normal, block_ret, block_exit, scope_normal, scope_ret, scope_exit, if_true, reduceIte, Nat.reduceEqDiff, reduceCtorEq])) | (refine awp_ret ?_; (try simp only [then_normal, then_exit, then_ret, block_normal, block_ret, block_exit, scope_normal, scope_ret, scope_exit, if_true, reduceIte, Nat.reduceEqDiff, reduceCtorEq])) | refine awp_cond_t rfl ?_ | refine awp_cond_f rfl ?_)
  refine goes_callS (callable_of Try.func12) (by simp (disch := (first | omega | (simp; done) | fail)) [if_pos, if_neg, wrap_i64, tmod_pos, tdiv_pos, Int.toNat_add, b8] <;> first | rfl | omega) _ (take_ok (fr [] ++ [1, 2]) .no (by simp [e4]) _) ?_
  rintro _ _ ⟨rfl, rfl⟩
  rw [e1]
  refine goes_eq (by simp (disch := (first | omega | (simp; done) | fail)) [if_pos, if_neg, wrap_i64, tmod_pos, tdiv_pos, Int.toNat_add, takeV, byV]; rfl) ?_
  repeat (first | (refine goes_done ?_; (try simp only [then_normal, then_exit, then_ret, block_normal, block_ret, block_exit, scope_normal, scope_ret, scope_exit, if_true, reduceIte, Nat.reduceEqDiff, reduceCtorEq])) | refine awp_seq ?_ | refine awp_region' (run_start (goes_eq (by simp (disch := (first | omega | (simp; done) | fail)) [if_pos, if_neg, wrap_i64, tmod_pos, tdiv_pos, Int.toNat_add, e4]; rfl) ?_)) | refine awp_block ?_ | refine awp_scope ?_ | (refine awp_exit ?_; (try simp only [then_normal, then_exit, then_ret, block_normal, block_ret, block_exit, scope_normal, scope_ret, scope_exit, if_true, reduceIte, Nat.reduceEqDiff, reduceCtorEq])) | (refine awp_skip ?_; (try simp only [then_normal, then_exit, then_ret, block_normal, block_ret, block_exit, scope_normal, scope_ret, scope_exit, if_true, reduceIte, Nat.reduceEqDiff, reduceCtorEq])) | (refine awp_label ?_; (try simp only [then_normal, then_exit, then_ret, block_normal, block_ret, block_exit, scope_normal, scope_ret, scope_exit, if_true, reduceIte, Nat.reduceEqDiff, reduceCtorEq])) | (refine awp_ret ?_; (try simp only [then_normal, then_exit, then_ret, block_normal, block_ret, block_exit, scope_normal, scope_ret, scope_exit, if_true, reduceIte, Nat.reduceEqDiff, reduceCtorEq])) | refine awp_cond_t rfl ?_ | refine awp_cond_f rfl ?_)
  refine goes_callS (callable_of Try.func14) (by simp (disch := (first | omega | (simp; done) | fail)) [if_pos, if_neg, wrap_i64, tmod_pos, tdiv_pos, Int.toNat_add, List.map_append] <;> first | rfl | omega) _ (all_ok (fr [] ++ fr []) .no (by simp [e4]) _) ?_
  rintro _ _ ⟨rfl, rfl⟩
  rw [e2]
  refine goes_eq (by simp (disch := (first | omega | (simp; done) | fail)) [if_pos, if_neg, wrap_i64, tmod_pos, tdiv_pos, Int.toNat_add]; rfl) ?_
  repeat (first | (refine goes_done ?_; (try simp only [then_normal, then_exit, then_ret, block_normal, block_ret, block_exit, scope_normal, scope_ret, scope_exit, if_true, reduceIte, Nat.reduceEqDiff, reduceCtorEq])) | refine awp_seq ?_ | refine awp_region' (run_start (goes_eq (by simp (disch := (first | omega | (simp; done) | fail)) [if_pos, if_neg, wrap_i64, tmod_pos, tdiv_pos, Int.toNat_add]; rfl) ?_)) | refine awp_block ?_ | refine awp_scope ?_ | (refine awp_exit ?_; (try simp only [then_normal, then_exit, then_ret, block_normal, block_ret, block_exit, scope_normal, scope_ret, scope_exit, if_true, reduceIte, Nat.reduceEqDiff, reduceCtorEq])) | (refine awp_skip ?_; (try simp only [then_normal, then_exit, then_ret, block_normal, block_ret, block_exit, scope_normal, scope_ret, scope_exit, if_true, reduceIte, Nat.reduceEqDiff, reduceCtorEq])) | (refine awp_label ?_; (try simp only [then_normal, then_exit, then_ret, block_normal, block_ret, block_exit, scope_normal, scope_ret, scope_exit, if_true, reduceIte, Nat.reduceEqDiff, reduceCtorEq])) | (refine awp_ret ?_; (try simp only [then_normal, then_exit, then_ret, block_normal, block_ret, block_exit, scope_normal, scope_ret, scope_exit, if_true, reduceIte, Nat.reduceEqDiff, reduceCtorEq])) | refine awp_cond_t rfl ?_ | refine awp_cond_f rfl ?_)
  refine awp_draw (.q 0 (.q 1 (.a 2 (.q 3 (.q 4 (.q 5 (.q 6 (.q 7 (.q 8 (.q 9 (.q 10 (.q 11 (.q 12 (.q 13 (.q 14 (.q 15 (.q 16 (.q 17 (.q 18 (.q 19 (.q 20 (.q 21 (.q 22 (.q 23 (.q 24 (.q 25 (.q 26 (.q 27 (.q 28 (.q 29 (.q 30 (.q 31 (.q 32 (.q 33 (.done))))))))))))))))))))))))))))))))))) (by kernel_rfl) (by kernel_rfl) (tree_start (goesT_eq (by simp (disch := (first | omega | (simp; done) | fail)) [if_pos, if_neg, wrap_i64, tmod_pos, tdiv_pos, Int.toNat_add, e3, e5]; rfl) ?_))
  refine goesT_done ?_
  (try simp only [then_normal, then_exit, then_ret, block_normal, block_ret, block_exit, scope_normal, scope_ret, scope_exit, if_true, reduceIte, Nat.reduceEqDiff, reduceCtorEq])
  repeat (first | (refine goes_done ?_; (try simp only [then_normal, then_exit, then_ret, block_normal, block_ret, block_exit, scope_normal, scope_ret, scope_exit, if_true, reduceIte, Nat.reduceEqDiff, reduceCtorEq])) | refine awp_seq ?_ | refine awp_region' (run_start (goes_eq (by simp (disch := (first | omega | (simp; done) | fail)) [if_pos, if_neg, wrap_i64, tmod_pos, tdiv_pos, Int.toNat_add]; rfl) ?_)) | refine awp_block ?_ | refine awp_scope ?_ | (refine awp_exit ?_; (try simp only [then_normal, then_exit, then_ret, block_normal, block_ret, block_exit, scope_normal, scope_ret, scope_exit, if_true, reduceIte, Nat.reduceEqDiff, reduceCtorEq])) | (refine awp_skip ?_; (try simp only [then_normal, then_exit, then_ret, block_normal, block_ret, block_exit, scope_normal, scope_ret, scope_exit, if_true, reduceIte, Nat.reduceEqDiff, reduceCtorEq])) | (refine awp_label ?_; (try simp only [then_normal, then_exit, then_ret, block_normal, block_ret, block_exit, scope_normal, scope_ret, scope_exit, if_true, reduceIte, Nat.reduceEqDiff, reduceCtorEq])) | (refine awp_ret ?_; (try simp only [then_normal, then_exit, then_ret, block_normal, block_ret, block_exit, scope_normal, scope_ret, scope_exit, if_true, reduceIte, Nat.reduceEqDiff, reduceCtorEq])) | refine awp_cond_t rfl ?_ | refine awp_cond_f rfl ?_)
  first | refine body_pure (.inr rfl) (by simp; rfl) (by simp; rfl) (by simp) ?_ | refine body_pure (.inl rfl) (by simp; rfl) (by simp; rfl) (by simp) ?_
  simp
end Go.Proofs.Ytkmoigfibipimaa.F
