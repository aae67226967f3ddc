/- Numbers as bytes: the writer. -/
import Derived.Test.YtfcfkbaikkkibaaN2
set_option linter.unusedVariables false
set_option linter.unusedSimpArgs false
set_option maxRecDepth 20000
namespace Go.Proofs.Ytfcfkbaikkkibaa.N
open Go Go.Proofs.Ytfcfkbaikkkibaa.V
theorem rtext_ok (l : List UInt8) (hl : l.length ≤ 1000000) (h : AHeap) : ACalls Try.prog 11 [.str l] h fun r h' => r = .str (nb l.length ++ l) ∧ h' = h := by
  have hn := nb_le l.length
  refine acalls_of_awp Try.func11 rfl (by simp only [List.length_cons, List.length_nil]; decide) ?_
  simp only [params_cons, params_nil]
  repeat (first | (refine goes_done ?_; (try simp only [then_normal, then_exit, then_ret, block_normal, block_ret, block_exit, scope_normal, scope_ret, scope_exit, if_true, reduceIte, Nat.reduceEqDiff, reduceCtorEq])) | refine awp_seq ?_ | refine awp_region' (run_start (goes_eq (by simp (disch := (first | omega | (simp; done) | fail)) [if_pos, if_neg, wrap_i64, tmod_pos, tdiv_pos, Int.toNat_add]; rfl) ?_)) | refine awp_block ?_ | refine awp_scope ?_ | (refine awp_exit ?_; (try simp only [then_normal, then_exit, then_ret, block_normal, block_ret, block_exit, scope_normal, scope_ret, scope_exit, if_true, reduceIte, Nat.reduceEqDiff, reduceCtorEq])) | (refine awp_skip ?_; (try simp only [then_normal, then_exit, then_ret, block_normal, block_ret, block_exit, scope_normal, scope_ret, scope_exit, if_true, reduceIte, Nat.reduceEqDiff, reduceCtorEq])) | (refine awp_label ?_; (try simp only [then_normal, then_exit, then_ret, block_normal, block_ret, block_exit, scope_normal, scope_ret, scope_exit, if_true, reduceIte, Nat.reduceEqDiff, reduceCtorEq])) | (refine awp_ret ?_; (try simp only [then_normal, then_exit, then_ret, block_normal, block_ret, block_exit, scope_normal, scope_ret, scope_exit, if_true, reduceIte, Nat.reduceEqDiff, reduceCtorEq])) | refine awp_cond_t rfl ?_ | refine awp_cond_f rfl ?_)
  refine goes_callS (callable_of Try.func13) (by simp (disch := (first | omega | (simp; done) | fail)) [if_pos, if_neg, wrap_i64, tmod_pos, tdiv_pos, Int.toNat_add] <;> first | rfl | omega) _ (rnum_ok l.length (by omega) _) ?_
  rintro _ _ ⟨rfl, rfl⟩
  refine goes_eq (by simp (disch := (first | omega | (simp; done) | fail)) [if_pos, if_neg, wrap_i64, tmod_pos, tdiv_pos, Int.toNat_add]; rfl) ?_
  repeat (first | (refine goes_done ?_; (try simp only [then_normal, then_exit, then_ret, block_normal, block_ret, block_exit, scope_normal, scope_ret, scope_exit, if_true, reduceIte, Nat.reduceEqDiff, reduceCtorEq])) | refine awp_seq ?_ | refine awp_region' (run_start (goes_eq (by simp (disch := (first | omega | (simp; done) | fail)) [if_pos, if_neg, wrap_i64, tmod_pos, tdiv_pos, Int.toNat_add]; rfl) ?_)) | refine awp_block ?_ | refine awp_scope ?_ | (refine awp_exit ?_; (try simp only [then_normal, then_exit, then_ret, block_normal, block_ret, block_exit, scope_normal, scope_ret, scope_exit, if_true, reduceIte, Nat.reduceEqDiff, reduceCtorEq])) | (refine awp_skip ?_; (try simp only [then_normal, then_exit, then_ret, block_normal, block_ret, block_exit, scope_normal, scope_ret, scope_exit, if_true, reduceIte, Nat.reduceEqDiff, reduceCtorEq])) | (refine awp_label ?_; (try simp only [then_normal, then_exit, then_ret, block_normal, block_ret, block_exit, scope_normal, scope_ret, scope_exit, if_true, reduceIte, Nat.reduceEqDiff, reduceCtorEq])) | (refine awp_ret ?_; (try simp only [then_normal, then_exit, then_ret, block_normal, block_ret, block_exit, scope_normal, scope_ret, scope_exit, if_true, reduceIte, Nat.reduceEqDiff, reduceCtorEq])) | refine awp_cond_t rfl ?_ | refine awp_cond_f rfl ?_)
  refine body_pure0 (.inr rfl) (by simp; rfl) (by simp; rfl) (by simp) ?_
  simp
theorem new_ok (h : AHeap) : ACalls Try.prog 9 [] h fun r h' => r = .ptr h.length 0 ∧ h' = h ++ [.cells [.list [] .full, .bool false]] := by
  refine acalls_of_awp Try.func9 rfl (by simp only [List.length_cons, List.length_nil]; decide) ?_
  simp only [params_cons, params_nil]
  repeat (first | (refine goes_done ?_; (try simp only [then_normal, then_exit, then_ret, block_normal, block_ret, block_exit, scope_normal, scope_ret, scope_exit, if_true, reduceIte, Nat.reduceEqDiff, reduceCtorEq])) | refine awp_seq ?_ | refine awp_region' (run_start (goes_eq (by simp (disch := (first | omega | (simp; done) | fail)) [if_pos, if_neg, wrap_i64, tmod_pos, tdiv_pos, Int.toNat_add]; rfl) ?_)) | refine awp_block ?_ | refine awp_scope ?_ | (refine awp_exit ?_; (try simp only [then_normal, then_exit, then_ret, block_normal, block_ret, block_exit, scope_normal, scope_ret, scope_exit, if_true, reduceIte, Nat.reduceEqDiff, reduceCtorEq])) | (refine awp_skip ?_; (try simp only [then_normal, then_exit, then_ret, block_normal, block_ret, block_exit, scope_normal, scope_ret, scope_exit, if_true, reduceIte, Nat.reduceEqDiff, reduceCtorEq])) | (refine awp_label ?_; (try simp only [then_normal, then_exit, then_ret, block_normal, block_ret, block_exit, scope_normal, scope_ret, scope_exit, if_true, reduceIte, Nat.reduceEqDiff, reduceCtorEq])) | (refine awp_ret ?_; (try simp only [then_normal, then_exit, then_ret, block_normal, block_ret, block_exit, scope_normal, scope_ret, scope_exit, if_true, reduceIte, Nat.reduceEqDiff, reduceCtorEq])) | refine awp_cond_t rfl ?_ | refine awp_cond_f rfl ?_)
  first | refine body_all (.inr rfl) (by simp; rfl) (by simp; rfl) (by simp) ?_ | refine body_all (.inl rfl) (by simp; rfl) (by simp; rfl) (by simp) ?_
  simp
/-- A writer: its object; what it owns. -/
def Wr (h : AHeap) (F : Nat → Prop) (id : Nat) (l : List UInt8) (sp : Bool) : Prop :=
  (∀ k, F k → k < h.length) ∧ F id ∧ ∃ t, h[id]? = some (.cells [.list (l.map b8) t, .bool sp]) ∧ (t = .full ∨ ∃ j, t = .own j ∧ j ≠ id ∧ F j ∧ h[j]? = some (.tail 5 1))
/-- What is not the writer's stays. -/
def Kept (h : AHeap) (F : Nat → Prop) (h' : AHeap) (F' : Nat → Prop) : Prop :=
  h.length ≤ h'.length ∧ (∀ k, k < h.length → ¬ F k → h'[k]? = h[k]?) ∧ ∀ k, F' k → F k ∨ h.length ≤ k
theorem Kept.refl (h : AHeap) (F : Nat → Prop) : Kept h F h F := ⟨Nat.le_refl _, fun _ _ _ => rfl, fun _ h => .inl h⟩
theorem Kept.trans {h h' h'' : AHeap} {F F' F'' : Nat → Prop} (a : Kept h F h' F') (b : Kept h' F' h'' F'') : Kept h F h'' F'' :=
  ⟨Nat.le_trans a.1 b.1, fun k hk hn => by
    rw [b.2.1 k (Nat.lt_of_lt_of_le hk a.1) (fun hf => (a.2.2 k hf).elim hn (fun h => by omega))]; exact a.2.1 k hk hn,
   fun k hk => (b.2.2 k hk).elim (a.2.2 k) (fun h => .inr (Nat.le_trans a.1 h))⟩
end Go.Proofs.Ytfcfkbaikkkibaa.N
