/- Numbers as bytes: the reference's number and text. -/
import Derived.Test.YtfcfkbaikkkibaaN1
set_option linter.unusedVariables false
set_option linter.unusedSimpArgs false
set_option maxRecDepth 20000
namespace Go.Proofs.Ytfcfkbaikkkibaa.N
open Go Go.Proofs.Ytfcfkbaikkkibaa.V
theorem nb_le (n : Nat) : (nb n).length ≤ n + 1 := by
  induction n using Nat.strongRecOn with
  | _ n ih =>
    by_cases h : n < 128
    · rw [nb_small h]; simp
    · rw [nb_big (by omega)]; have := ih (n / 128) (by omega); simp; omega
theorem rnum_ok (n : Nat) : ∀ (hn : n ≤ 281474976710656) (h : AHeap), ACalls Try.prog 13 [.int .i64 (n : Nat)] h fun r h' => r = .str (nb n) ∧ h' = h := by
  induction n using Nat.strongRecOn with
  | _ n ih =>
    intro hn h
    refine acalls_of_awp Try.func13 rfl (by simp only [List.length_cons, List.length_nil]; decide) ?_
    simp only [params_cons, params_nil]
    have hnl := nb_le (n / 128)
    have h1 : ¬ ((n : Int) < 0) := by omega
    have h2 : ¬ ((281474976710656 : Int) < (n : Int)) := by omega
    have e1 : n < 128 → bytesOf [.int .u8 ((n : Int) % 256)] = some [b8n n] := fun _ => by
      have := bytesOf_map [b8n n]
      simpa [b8, b8n_toNat] using this
    have e2 : bytesOf [.int .u8 ((128 + (n : Int) % 128) % 256)] = some [b8n (128 + n % 128)] := by
      have := bytesOf_map [b8n (128 + n % 128)]
      simpa [b8, b8n_toNat] using this
    repeat (first | (refine goes_done ?_; (try simp only [then_normal, then_exit, then_ret, block_normal, block_ret, block_exit, scope_normal, scope_ret, scope_exit, if_true, reduceIte, Nat.reduceEqDiff, reduceCtorEq])) | refine awp_seq ?_ | refine awp_region' (run_start (goes_eq (by simp (disch := (first | omega | (simp; done) | fail)) [if_pos, if_neg, wrap_i64, tmod_pos, tdiv_pos, Int.toNat_add, h1, h2]; rfl) ?_)) | refine awp_block ?_ | refine awp_scope ?_ | (refine awp_exit ?_; (try simp only [then_normal, then_exit, then_ret, block_normal, block_ret, block_exit, scope_normal, scope_ret, scope_exit, if_true, reduceIte, Nat.reduceEqDiff, reduceCtorEq])) | (refine awp_skip ?_; (try simp only [then_normal, then_exit, then_ret, block_normal, block_ret, block_exit, scope_normal, scope_ret, scope_exit, if_true, reduceIte, Nat.reduceEqDiff, reduceCtorEq])) | (refine awp_label ?_; (try simp only [then_normal, then_exit, then_ret, block_normal, block_ret, block_exit, scope_normal, scope_ret, scope_exit, if_true, reduceIte, Nat.reduceEqDiff, reduceCtorEq])) | (refine awp_ret ?_; (try simp only [then_normal, then_exit, then_ret, block_normal, block_ret, block_exit, scope_normal, scope_ret, scope_exit, if_true, reduceIte, Nat.reduceEqDiff, reduceCtorEq])) | refine awp_cond_t rfl ?_ | refine awp_cond_f rfl ?_)
    refine awp_cond rfl (fun h0 => ?_) (fun h0 => ?_)
    · simp at h0
      have e3 := e1 (by omega)
      repeat (first | (refine goes_done ?_; (try simp only [then_normal, then_exit, then_ret, block_normal, block_ret, block_exit, scope_normal, scope_ret, scope_exit, if_true, reduceIte, Nat.reduceEqDiff, reduceCtorEq])) | refine awp_seq ?_ | refine awp_region' (run_start (goes_eq (by simp (disch := (first | omega | (simp; done) | fail)) [if_pos, if_neg, wrap_i64, tmod_pos, tdiv_pos, Int.toNat_add, e3]; rfl) ?_)) | refine awp_block ?_ | refine awp_scope ?_ | (refine awp_exit ?_; (try simp only [then_normal, then_exit, then_ret, block_normal, block_ret, block_exit, scope_normal, scope_ret, scope_exit, if_true, reduceIte, Nat.reduceEqDiff, reduceCtorEq])) | (refine awp_skip ?_; (try simp only [then_normal, then_exit, then_ret, block_normal, block_ret, block_exit, scope_normal, scope_ret, scope_exit, if_true, reduceIte, Nat.reduceEqDiff, reduceCtorEq])) | (refine awp_label ?_; (try simp only [then_normal, then_exit, then_ret, block_normal, block_ret, block_exit, scope_normal, scope_ret, scope_exit, if_true, reduceIte, Nat.reduceEqDiff, reduceCtorEq])) | (refine awp_ret ?_; (try simp only [then_normal, then_exit, then_ret, block_normal, block_ret, block_exit, scope_normal, scope_ret, scope_exit, if_true, reduceIte, Nat.reduceEqDiff, reduceCtorEq])) | refine awp_cond_t rfl ?_ | refine awp_cond_f rfl ?_)
      refine body_pure0 (.inr rfl) (by simp; rfl) (by simp; rfl) (by simp) ?_
      rw [nb_small (by omega)]; simp
    · simp at h0
      repeat (first | (refine goes_done ?_; (try simp only [then_normal, then_exit, then_ret, block_normal, block_ret, block_exit, scope_normal, scope_ret, scope_exit, if_true, reduceIte, Nat.reduceEqDiff, reduceCtorEq])) | refine awp_seq ?_ | refine awp_region' (run_start (goes_eq (by simp (disch := (first | omega | (simp; done) | fail)) [if_pos, if_neg, wrap_i64, tmod_pos, tdiv_pos, Int.toNat_add]; rfl) ?_)) | refine awp_block ?_ | refine awp_scope ?_ | (refine awp_exit ?_; (try simp only [then_normal, then_exit, then_ret, block_normal, block_ret, block_exit, scope_normal, scope_ret, scope_exit, if_true, reduceIte, Nat.reduceEqDiff, reduceCtorEq])) | (refine awp_skip ?_; (try simp only [then_normal, then_exit, then_ret, block_normal, block_ret, block_exit, scope_normal, scope_ret, scope_exit, if_true, reduceIte, Nat.reduceEqDiff, reduceCtorEq])) | (refine awp_label ?_; (try simp only [then_normal, then_exit, then_ret, block_normal, block_ret, block_exit, scope_normal, scope_ret, scope_exit, if_true, reduceIte, Nat.reduceEqDiff, reduceCtorEq])) | (refine awp_ret ?_; (try simp only [then_normal, then_exit, then_ret, block_normal, block_ret, block_exit, scope_normal, scope_ret, scope_exit, if_true, reduceIte, Nat.reduceEqDiff, reduceCtorEq])) | refine awp_cond_t rfl ?_ | refine awp_cond_f rfl ?_)
      refine awp_draw (.q 0 (.q 1 (.q 2 (.q 3 (.q 6 (.q 7 (.two 4 8 (.q 5 (.a 8 (.q 9 (.q 10 (.done))))) (.a 4 (.q 5 (.q 9 (.q 10 (.done)))))))))))) (by kernel_rfl) (by kernel_rfl) (tree_start (goesT_eq (by simp (disch := (first | omega | (simp; done) | fail)) [if_pos, if_neg, wrap_i64, tmod_pos, tdiv_pos, Int.toNat_add, e2]; rfl) ?_))
      refine goesT_two (goesT_eq (by simp (disch := (first | omega | (simp; done) | fail)) [if_pos, if_neg, wrap_i64, tmod_pos, tdiv_pos, Int.toNat_add, e2]; rfl) ?_) (goesT_eq (by simp (disch := (first | omega | (simp; done) | fail)) [if_pos, if_neg, wrap_i64, tmod_pos, tdiv_pos, Int.toNat_add, e2]; rfl) ?_)
      · refine goesT_callS (callable_of Try.func13) (by simp (disch := (first | omega | (simp; done) | fail)) [if_pos, if_neg, wrap_i64, tmod_pos, tdiv_pos, Int.toNat_add] <;> first | rfl | omega) _ (ih (n / 128) (by omega) (by omega) _) ?_
        rintro _ _ ⟨rfl, rfl⟩
        refine goesT_eq (by simp (disch := (first | omega | (simp; done) | fail)) [if_pos, if_neg, wrap_i64, tmod_pos, tdiv_pos, Int.toNat_add, e2]; rfl) ?_
        refine goesT_done ?_
        (try simp only [then_normal, then_exit, then_ret, block_normal, block_ret, block_exit, scope_normal, scope_ret, scope_exit, if_true, reduceIte, Nat.reduceEqDiff, reduceCtorEq])
        repeat (first | (refine goes_done ?_; (try simp only [then_normal, then_exit, then_ret, block_normal, block_ret, block_exit, scope_normal, scope_ret, scope_exit, if_true, reduceIte, Nat.reduceEqDiff, reduceCtorEq])) | refine awp_seq ?_ | refine awp_region' (run_start (goes_eq (by simp (disch := (first | omega | (simp; done) | fail)) [if_pos, if_neg, wrap_i64, tmod_pos, tdiv_pos, Int.toNat_add]; rfl) ?_)) | refine awp_block ?_ | refine awp_scope ?_ | (refine awp_exit ?_; (try simp only [then_normal, then_exit, then_ret, block_normal, block_ret, block_exit, scope_normal, scope_ret, scope_exit, if_true, reduceIte, Nat.reduceEqDiff, reduceCtorEq])) | (refine awp_skip ?_; (try simp only [then_normal, then_exit, then_ret, block_normal, block_ret, block_exit, scope_normal, scope_ret, scope_exit, if_true, reduceIte, Nat.reduceEqDiff, reduceCtorEq])) | (refine awp_label ?_; (try simp only [then_normal, then_exit, then_ret, block_normal, block_ret, block_exit, scope_normal, scope_ret, scope_exit, if_true, reduceIte, Nat.reduceEqDiff, reduceCtorEq])) | (refine awp_ret ?_; (try simp only [then_normal, then_exit, then_ret, block_normal, block_ret, block_exit, scope_normal, scope_ret, scope_exit, if_true, reduceIte, Nat.reduceEqDiff, reduceCtorEq])) | refine awp_cond_t rfl ?_ | refine awp_cond_f rfl ?_)
        refine body_pure0 (.inr rfl) (by simp; rfl) (by simp; rfl) (by simp) ?_
        rw [nb_big (n := n) (by omega)]; simp
      · refine goesT_callS (callable_of Try.func13) (by simp (disch := (first | omega | (simp; done) | fail)) [if_pos, if_neg, wrap_i64, tmod_pos, tdiv_pos, Int.toNat_add] <;> first | rfl | omega) _ (ih (n / 128) (by omega) (by omega) _) ?_
        rintro _ _ ⟨rfl, rfl⟩
        refine goesT_eq (by simp (disch := (first | omega | (simp; done) | fail)) [if_pos, if_neg, wrap_i64, tmod_pos, tdiv_pos, Int.toNat_add, e2]; rfl) ?_
        refine goesT_done ?_
        (try simp only [then_normal, then_exit, then_ret, block_normal, block_ret, block_exit, scope_normal, scope_ret, scope_exit, if_true, reduceIte, Nat.reduceEqDiff, reduceCtorEq])
        repeat (first | (refine goes_done ?_; (try simp only [then_normal, then_exit, then_ret, block_normal, block_ret, block_exit, scope_normal, scope_ret, scope_exit, if_true, reduceIte, Nat.reduceEqDiff, reduceCtorEq])) | refine awp_seq ?_ | refine awp_region' (run_start (goes_eq (by simp (disch := (first | omega | (simp; done) | fail)) [if_pos, if_neg, wrap_i64, tmod_pos, tdiv_pos, Int.toNat_add]; rfl) ?_)) | refine awp_block ?_ | refine awp_scope ?_ | (refine awp_exit ?_; (try simp only [then_normal, then_exit, then_ret, block_normal, block_ret, block_exit, scope_normal, scope_ret, scope_exit, if_true, reduceIte, Nat.reduceEqDiff, reduceCtorEq])) | (refine awp_skip ?_; (try simp only [then_normal, then_exit, then_ret, block_normal, block_ret, block_exit, scope_normal, scope_ret, scope_exit, if_true, reduceIte, Nat.reduceEqDiff, reduceCtorEq])) | (refine awp_label ?_; (try simp only [then_normal, then_exit, then_ret, block_normal, block_ret, block_exit, scope_normal, scope_ret, scope_exit, if_true, reduceIte, Nat.reduceEqDiff, reduceCtorEq])) | (refine awp_ret ?_; (try simp only [then_normal, then_exit, then_ret, block_normal, block_ret, block_exit, scope_normal, scope_ret, scope_exit, if_true, reduceIte, Nat.reduceEqDiff, reduceCtorEq])) | refine awp_cond_t rfl ?_ | refine awp_cond_f rfl ?_)
        refine body_pure0 (.inr rfl) (by simp; rfl) (by simp; rfl) (by simp) ?_
        rw [nb_big (n := n) (by omega)]; simp
end Go.Proofs.Ytfcfkbaikkkibaa.N
