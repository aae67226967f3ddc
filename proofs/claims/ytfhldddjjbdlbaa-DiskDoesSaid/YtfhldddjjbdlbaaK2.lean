/- Disks: bytes that last are set; Of, Crash, Open. -/
import Derived.Test.YtfhldddjjbdlbaaK1
set_option linter.unusedVariables false
set_option linter.unusedSimpArgs false
set_option maxRecDepth 20000
namespace Go.Proofs.Ytfhldddjjbdlbaa.K
open Go Go.Proofs.Ytfhldddjjbdlbaa.V Go.Proofs.Ytfhldddjjbdlbaa.F
attribute [-simp] List.map_take List.map_drop
attribute [local simp] take_map drop_map List.take_take
theorem set_last {h : AHeap} {a x : AObj} : (h ++ [a]).set h.length x = h ++ [x] := by simp
theorem set_get {h : AHeap} {id : Nat} {o : AObj} (hr : h[id]? = some o) (x : AObj) : (h.set id x)[id]? = some x := by
  have : id < h.length := by
    rcases Nat.lt_or_ge id h.length with h1 | h1
    · exact h1
    · rw [List.getElem?_eq_none h1] at hr; cases hr
  rw [List.getElem?_set_self this]
theorem set_ok (b : List UInt8) (t : Tok) (hb : b.length ≤ 1000000) (h : AHeap) (F : Nat → Prop) (id : Nat) (l : List UInt8) (s : Nat) (hw : Dk h F id l s) :
    ACalls Try.prog 24 [.ptr id 0, .list (b.map b8) t] h fun r h' => ∃ F', Dk h' F' id b b.length ∧ Kept h F h' F' := by
  obtain ⟨w1, w2, t2, w3, w4⟩ := hw
  have hbl : (List.map b8 b).length = b.length := by simp
  have hs := own_new (x := [.dead]) (c := .int .i64 (b.length : Nat)) w1 w2 b
  refine acalls_of_awp Try.func24 rfl (by simp only [List.length_cons, List.length_nil]; decide) ?_
  simp only [params_cons, params_nil]
  refine awp_seq (awp_region_at 2 rfl rfl ?_)
  refine run_start (goes_eq (by simp (disch := (first | omega | (simp; done) | fail)) [if_pos, if_neg, wrap_i64, tmod_pos, tdiv_pos, Int.toNat_add]; rfl) ?_)
  refine goes_done ?_
  refine aops_make (e := 5) (by_ := 1) (m := b.length) (z := .int .u8 0) rfl rfl Try.underlying28 (by rfl) (by rfl) (by rfl) rfl rfl rfl rfl (by omega) (by omega) ?_
  refine aops_end ?_
  refine run_start (goes_eq (by simp (disch := (first | omega | (simp; done) | fail)) [if_pos, if_neg, wrap_i64, tmod_pos, tdiv_pos, Int.toNat_add]; rfl) ?_)
  refine goes_done ?_
  simp only [then_normal, then_exit, then_ret, block_normal, block_ret, block_exit, scope_normal, scope_ret, scope_exit, if_true, reduceIte, Nat.reduceEqDiff, reduceCtorEq]
  refine awp_seq (awp_region_at 2 rfl rfl ?_)
  refine run_start (goes_eq (by simp (disch := (first | omega | (simp; done) | fail)) [if_pos, if_neg, wrap_i64, tmod_pos, tdiv_pos, Int.toNat_add]; rfl) ?_)
  refine goes_done ?_
  refine aops_copy (id := h.length) (m := b.length) (c := b.length) (cs := List.replicate b.length (.int .u8 0)) (ys := b.map b8) (e := 5) rfl rfl Try.underlying28 (by rfl) rfl rfl (by simp) (by simp) (by simp) (by simp) ?_
  refine aops_end ?_
  refine run_start (goes_eq (by simp (disch := (first | omega | (simp; done) | fail)) [if_pos, if_neg, wrap_i64, tmod_pos, tdiv_pos, Int.toNat_add]; rfl) ?_)
  refine goes_done ?_
  simp only [then_normal, then_exit, then_ret, block_normal, block_ret, block_exit, scope_normal, scope_ret, scope_exit, if_true, reduceIte, Nat.reduceEqDiff, reduceCtorEq]
  refine awp_fix (id := h.length) (n := b.length) (c := b.length) (cs := b.map b8) (xs := b.map b8) (by simp) (List.take_of_length_le (by simp)) (by simp) (by simp) ?_
  rw [set_last, if_pos rfl]
  repeat (first | (refine goes_done ?_; (try simp only [then_normal, then_exit, then_ret, block_normal, block_ret, block_exit, scope_normal, scope_ret, scope_exit, if_true, reduceIte, Nat.reduceEqDiff, reduceCtorEq])) | refine awp_seq ?_ | refine awp_region' (run_start (goes_eq (by simp (disch := (first | omega | (simp; done) | fail)) [if_pos, if_neg, wrap_i64, tmod_pos, tdiv_pos, Int.toNat_add, Slots.thaw, AV.thaw, w3, List.getElem?_append_left (w1 id w2), set_get (List.getElem?_append_left (w1 id w2) ▸ w3)]; rfl) ?_)) | refine awp_block ?_ | refine awp_scope ?_ | (refine awp_exit ?_; (try simp only [then_normal, then_exit, then_ret, block_normal, block_ret, block_exit, scope_normal, scope_ret, scope_exit, if_true, reduceIte, Nat.reduceEqDiff, reduceCtorEq])) | (refine awp_skip ?_; (try simp only [then_normal, then_exit, then_ret, block_normal, block_ret, block_exit, scope_normal, scope_ret, scope_exit, if_true, reduceIte, Nat.reduceEqDiff, reduceCtorEq])) | (refine awp_label ?_; (try simp only [then_normal, then_exit, then_ret, block_normal, block_ret, block_exit, scope_normal, scope_ret, scope_exit, if_true, reduceIte, Nat.reduceEqDiff, reduceCtorEq])) | (refine awp_ret ?_; (try simp only [then_normal, then_exit, then_ret, block_normal, block_ret, block_exit, scope_normal, scope_ret, scope_exit, if_true, reduceIte, Nat.reduceEqDiff, reduceCtorEq])) | refine awp_cond_t rfl ?_ | refine awp_cond_f rfl ?_)
  first | refine body_all (.inr rfl) (by simp; rfl) (by simp; rfl) (by first | (simp; done) | (simp; omega) | omega) ?_ | refine body_all (.inl rfl) (by simp; rfl) (by simp; rfl) (by first | (simp; done) | (simp; omega) | omega) ?_
  exact ⟨_, hs⟩
theorem of_ok (b : List UInt8) (t : Tok) (hb : b.length ≤ 1000000) (h : AHeap) :
    ACalls Try.prog 18 [.list (b.map b8) t] h fun r h' => r = .ptr h.length 0 ∧ ∃ F', Dk h' F' h.length b b.length ∧ Kept (h ++ [.cells [.list [] .full, .int .i64 0]]) (fun k => k = h.length) h' F' := by
  refine acalls_of_awp Try.func18 rfl (by simp only [List.length_cons, List.length_nil]; decide) ?_
  simp only [params_cons, params_nil]
  repeat (first | (refine goes_done ?_; (try simp only [then_normal, then_exit, then_ret, block_normal, block_ret, block_exit, scope_normal, scope_ret, scope_exit, if_true, reduceIte, Nat.reduceEqDiff, reduceCtorEq])) | refine awp_seq ?_ | refine awp_region' (run_start (goes_eq (by simp (disch := (first | omega | (simp; done) | fail)) [if_pos, if_neg, wrap_i64, tmod_pos, tdiv_pos, Int.toNat_add]; rfl) ?_)) | refine awp_block ?_ | refine awp_scope ?_ | (refine awp_exit ?_; (try simp only [then_normal, then_exit, then_ret, block_normal, block_ret, block_exit, scope_normal, scope_ret, scope_exit, if_true, reduceIte, Nat.reduceEqDiff, reduceCtorEq])) | (refine awp_skip ?_; (try simp only [then_normal, then_exit, then_ret, block_normal, block_ret, block_exit, scope_normal, scope_ret, scope_exit, if_true, reduceIte, Nat.reduceEqDiff, reduceCtorEq])) | (refine awp_label ?_; (try simp only [then_normal, then_exit, then_ret, block_normal, block_ret, block_exit, scope_normal, scope_ret, scope_exit, if_true, reduceIte, Nat.reduceEqDiff, reduceCtorEq])) | (refine awp_ret ?_; (try simp only [then_normal, then_exit, then_ret, block_normal, block_ret, block_exit, scope_normal, scope_ret, scope_exit, if_true, reduceIte, Nat.reduceEqDiff, reduceCtorEq])) | refine awp_cond_t rfl ?_ | refine awp_cond_f rfl ?_)
  refine goes_callS (callable_of Try.func9) (by simp (disch := (first | omega | (simp; done) | fail)) [if_pos, if_neg, wrap_i64, tmod_pos, tdiv_pos, Int.toNat_add] <;> first | rfl | omega) _ (new_ok _) ?_
  rintro _ h1 ⟨rfl, rfl⟩
  have hw := dk_new h
  refine goes_eq (by simp (disch := (first | omega | (simp; done) | fail)) [if_pos, if_neg, wrap_i64, tmod_pos, tdiv_pos, Int.toNat_add]; rfl) ?_
  repeat (first | (refine goes_done ?_; (try simp only [then_normal, then_exit, then_ret, block_normal, block_ret, block_exit, scope_normal, scope_ret, scope_exit, if_true, reduceIte, Nat.reduceEqDiff, reduceCtorEq])) | refine awp_seq ?_ | refine awp_region' (run_start (goes_eq (by simp (disch := (first | omega | (simp; done) | fail)) [if_pos, if_neg, wrap_i64, tmod_pos, tdiv_pos, Int.toNat_add]; rfl) ?_)) | refine awp_block ?_ | refine awp_scope ?_ | (refine awp_exit ?_; (try simp only [then_normal, then_exit, then_ret, block_normal, block_ret, block_exit, scope_normal, scope_ret, scope_exit, if_true, reduceIte, Nat.reduceEqDiff, reduceCtorEq])) | (refine awp_skip ?_; (try simp only [then_normal, then_exit, then_ret, block_normal, block_ret, block_exit, scope_normal, scope_ret, scope_exit, if_true, reduceIte, Nat.reduceEqDiff, reduceCtorEq])) | (refine awp_label ?_; (try simp only [then_normal, then_exit, then_ret, block_normal, block_ret, block_exit, scope_normal, scope_ret, scope_exit, if_true, reduceIte, Nat.reduceEqDiff, reduceCtorEq])) | (refine awp_ret ?_; (try simp only [then_normal, then_exit, then_ret, block_normal, block_ret, block_exit, scope_normal, scope_ret, scope_exit, if_true, reduceIte, Nat.reduceEqDiff, reduceCtorEq])) | refine awp_cond_t rfl ?_ | refine awp_cond_f rfl ?_)
  refine goes_callS (callable_of Try.func24) (by simp (disch := (first | omega | (simp; done) | fail)) [if_pos, if_neg, wrap_i64, tmod_pos, tdiv_pos, Int.toNat_add] <;> first | rfl | omega) _ (set_ok b .no hb _ _ _ _ _ hw) ?_
  rintro _ h2 ⟨F', hw2, hk2⟩
  have hl := hk2.1
  simp only [List.length_append, List.length_singleton] at hl
  refine goes_eq (by simp (disch := (first | omega | (simp; done) | fail)) [if_pos, if_neg, wrap_i64, tmod_pos, tdiv_pos, Int.toNat_add]; rfl) ?_
  repeat (first | (refine goes_done ?_; (try simp only [then_normal, then_exit, then_ret, block_normal, block_ret, block_exit, scope_normal, scope_ret, scope_exit, if_true, reduceIte, Nat.reduceEqDiff, reduceCtorEq])) | refine awp_seq ?_ | refine awp_region' (run_start (goes_eq (by simp (disch := (first | omega | (simp; done) | fail)) [if_pos, if_neg, wrap_i64, tmod_pos, tdiv_pos, Int.toNat_add]; rfl) ?_)) | refine awp_block ?_ | refine awp_scope ?_ | (refine awp_exit ?_; (try simp only [then_normal, then_exit, then_ret, block_normal, block_ret, block_exit, scope_normal, scope_ret, scope_exit, if_true, reduceIte, Nat.reduceEqDiff, reduceCtorEq])) | (refine awp_skip ?_; (try simp only [then_normal, then_exit, then_ret, block_normal, block_ret, block_exit, scope_normal, scope_ret, scope_exit, if_true, reduceIte, Nat.reduceEqDiff, reduceCtorEq])) | (refine awp_label ?_; (try simp only [then_normal, then_exit, then_ret, block_normal, block_ret, block_exit, scope_normal, scope_ret, scope_exit, if_true, reduceIte, Nat.reduceEqDiff, reduceCtorEq])) | (refine awp_ret ?_; (try simp only [then_normal, then_exit, then_ret, block_normal, block_ret, block_exit, scope_normal, scope_ret, scope_exit, if_true, reduceIte, Nat.reduceEqDiff, reduceCtorEq])) | refine awp_cond_t rfl ?_ | refine awp_cond_f rfl ?_)
  first | refine body_all (.inr rfl) (by simp; rfl) (by simp; rfl) (by first | (simp; done) | (simp; omega) | omega) ?_ | refine body_all (.inl rfl) (by simp; rfl) (by simp; rfl) (by first | (simp; done) | (simp; omega) | omega) ?_
  exact ⟨rfl, _, hw2, hk2⟩
theorem allF_le : ∀ (n : Nat) (l : List UInt8), (allF n l).2 ≤ l.length
  | 0, l => by simp [allF]
  | n + 1, l => by
    simp only [allF]
    split
    · rename_i h0
      have h1 := takeB_len h0
      have := allF_le n (l.drop (takeB l).2.1)
      simp at this
      simp; omega
    · simp
theorem allB_le (l : List UInt8) : (allB l).2 ≤ l.length := allF_le _ l
/-- How many bytes are left by a crash. -/
def leftN (keep : Int) (n : Nat) : Nat := min (max keep 0).toNat n
theorem dk_eq {h : AHeap} {F : Nat → Prop} {id n m : Nat} {l : List UInt8} (w : Dk h F id (l.take n) (l.take n).length) (e : n = m) (hm : m ≤ l.length) : Dk h F id (l.take m) m := by
  subst e; rw [List.length_take, Nat.min_eq_left hm] at w; exact w
theorem dk_all {h : AHeap} {F : Nat → Prop} {id m : Nat} {l : List UInt8} (w : Dk h F id l l.length) (e : m = l.length) : Dk h F id (l.take m) m := by
  subst e; rw [List.take_length]; exact w
theorem crash_ok (keep : Int) (hkp : -9223372036854775808 ≤ keep ∧ keep ≤ 9223372036854775807) (h : AHeap) (F : Nat → Prop) (id : Nat) (l : List UInt8) (s : Nat) (hl : l.length ≤ 1000000) (hs : s ≤ l.length) (hw : Dk h F id l s) :
    ACalls Try.prog 12 [.ptr id 0, .int .i64 keep] h fun r h' => ∃ F', Dk h' F' id (l.take (s + leftN keep (l.length - s))) (s + leftN keep (l.length - s)) ∧ Kept h F h' F' := by
  have hw0 := hw
  obtain ⟨w1, w2, t, w3, w4⟩ := hw
  generalize hk : leftN keep (l.length - s) = k
  unfold leftN at hk
  have hkle : s + k ≤ l.length := by omega
  refine acalls_of_awp Try.func12 rfl (by simp only [List.length_cons, List.length_nil]; decide) ?_
  simp only [params_cons, params_nil]
  by_cases h1 : keep < 0
  · have hk0 : k = 0 := by omega
    clear hk
    have e0 : ¬ ((l.length - s : Nat) : Int) < 0 := by omega
    refine awp_draw (.q 0 (.q 1 (.q 2 (.q 3 (.q 5 (.q 6 (.q 7 (.q 9 (.q 10 (.q 11 (.three 4 8 12 (.two 8 12 (.a 12 (.q 13 (.q 14 (.q 15 (.a 16 (.done)))))) (.q 13 (.a 8 (.q 14 (.q 15 (.a 16 (.done))))))) (.two 4 12 (.a 12 (.q 13 (.q 14 (.q 15 (.a 16 (.done)))))) (.q 13 (.q 14 (.a 4 (.q 15 (.a 16 (.done))))))) (.q 13 (.two 4 8 (.a 8 (.q 14 (.q 15 (.a 16 (.done))))) (.q 14 (.a 4 (.q 15 (.a 16 (.done)))))))))))))))))) (by kernel_rfl) (by kernel_rfl) (tree_start (goesT_eq (by simp (disch := (first | omega | (simp; done) | fail)) [if_pos, if_neg, wrap_i64, tmod_pos, tdiv_pos, Int.toNat_add, w3]; rfl) ?_))
    refine goesT_three (goesT_eq (by simp (disch := (first | omega | (simp; done) | fail)) [if_pos, if_neg, wrap_i64, tmod_pos, tdiv_pos, Int.toNat_add, w3]; rfl) ?_) (goesT_eq (by simp (disch := (first | omega | (simp; done) | fail)) [if_pos, if_neg, wrap_i64, tmod_pos, tdiv_pos, Int.toNat_add, w3]; rfl) ?_) (goesT_eq (by simp (disch := (first | omega | (simp; done) | fail)) [if_pos, if_neg, wrap_i64, tmod_pos, tdiv_pos, Int.toNat_add, w3]; rfl) ?_)
    · refine goesT_two (goesT_eq (by simp (disch := (first | omega | (simp; done) | fail)) [if_pos, if_neg, wrap_i64, tmod_pos, tdiv_pos, Int.toNat_add, w3]; rfl) ?_) (goesT_eq (by simp (disch := (first | omega | (simp; done) | fail)) [if_pos, if_neg, wrap_i64, tmod_pos, tdiv_pos, Int.toNat_add, w3]; rfl) ?_)
      · refine goesT_callS (callable_of Try.func15) (by simp (disch := (first | omega | (simp; done) | fail)) [if_pos, if_neg, wrap_i64, tmod_pos, tdiv_pos, Int.toNat_add] <;> first | rfl | omega) _ (dirty_ok _ _ _ _ _ hl hs hw0) ?_
        rintro _ _ ⟨rfl, rfl⟩
        refine goesT_eq (by simp (disch := (first | omega | (simp; done) | fail)) [if_pos, if_neg, wrap_i64, tmod_pos, tdiv_pos, Int.toNat_add, w3, h1, e0]; rfl) ?_
        refine goesT_callS (callable_of Try.func24) (by simp (disch := (first | omega | (simp; done) | fail)) [if_pos, if_neg, wrap_i64, tmod_pos, tdiv_pos, Int.toNat_add] <;> first | rfl | omega) _ (set_ok (l.take _) .no (by rw [List.length_take]; omega) _ _ _ _ _ hw0) ?_
        rintro _ h2 ⟨F', hw2, hk2⟩
        have hkl := hk2.1
        refine goesT_eq (by simp (disch := (first | omega | (simp; done) | fail)) [if_pos, if_neg, wrap_i64, tmod_pos, tdiv_pos, Int.toNat_add]; rfl) ?_
        refine goesT_done ?_
        (try simp only [then_normal, then_exit, then_ret, block_normal, block_ret, block_exit, scope_normal, scope_ret, scope_exit, if_true, reduceIte, Nat.reduceEqDiff, reduceCtorEq])
        first | refine body_all (.inr rfl) (by simp; rfl) (by simp; rfl) (by first | (simp; done) | (simp; omega) | omega) ?_ | refine body_all (.inl rfl) (by simp; rfl) (by simp; rfl) (by first | (simp; done) | (simp; omega) | omega) ?_
        exact ⟨_, dk_eq hw2 (by omega) (by omega), hk2⟩
      · refine goesT_callS (callable_of Try.func15) (by simp (disch := (first | omega | (simp; done) | fail)) [if_pos, if_neg, wrap_i64, tmod_pos, tdiv_pos, Int.toNat_add] <;> first | rfl | omega) _ (dirty_ok _ _ _ _ _ hl hs hw0) ?_
        rintro _ _ ⟨rfl, rfl⟩
        refine goesT_eq (by simp (disch := (first | omega | (simp; done) | fail)) [if_pos, if_neg, wrap_i64, tmod_pos, tdiv_pos, Int.toNat_add, w3, h1, e0]; rfl) ?_
        refine goesT_callS (callable_of Try.func24) (by simp (disch := (first | omega | (simp; done) | fail)) [if_pos, if_neg, wrap_i64, tmod_pos, tdiv_pos, Int.toNat_add] <;> first | rfl | omega) _ (set_ok (l.take _) .no (by rw [List.length_take]; omega) _ _ _ _ _ hw0) ?_
        rintro _ h2 ⟨F', hw2, hk2⟩
        have hkl := hk2.1
        refine goesT_eq (by simp (disch := (first | omega | (simp; done) | fail)) [if_pos, if_neg, wrap_i64, tmod_pos, tdiv_pos, Int.toNat_add]; rfl) ?_
        refine goesT_done ?_
        (try simp only [then_normal, then_exit, then_ret, block_normal, block_ret, block_exit, scope_normal, scope_ret, scope_exit, if_true, reduceIte, Nat.reduceEqDiff, reduceCtorEq])
        first | refine body_all (.inr rfl) (by simp; rfl) (by simp; rfl) (by first | (simp; done) | (simp; omega) | omega) ?_ | refine body_all (.inl rfl) (by simp; rfl) (by simp; rfl) (by first | (simp; done) | (simp; omega) | omega) ?_
        exact ⟨_, dk_eq hw2 (by omega) (by omega), hk2⟩
    · refine goesT_two (goesT_eq (by simp (disch := (first | omega | (simp; done) | fail)) [if_pos, if_neg, wrap_i64, tmod_pos, tdiv_pos, Int.toNat_add, w3]; rfl) ?_) (goesT_eq (by simp (disch := (first | omega | (simp; done) | fail)) [if_pos, if_neg, wrap_i64, tmod_pos, tdiv_pos, Int.toNat_add, w3]; rfl) ?_)
      · refine goesT_callS (callable_of Try.func15) (by simp (disch := (first | omega | (simp; done) | fail)) [if_pos, if_neg, wrap_i64, tmod_pos, tdiv_pos, Int.toNat_add] <;> first | rfl | omega) _ (dirty_ok _ _ _ _ _ hl hs hw0) ?_
        rintro _ _ ⟨rfl, rfl⟩
        refine goesT_eq (by simp (disch := (first | omega | (simp; done) | fail)) [if_pos, if_neg, wrap_i64, tmod_pos, tdiv_pos, Int.toNat_add, w3, h1, e0]; rfl) ?_
        refine goesT_callS (callable_of Try.func24) (by simp (disch := (first | omega | (simp; done) | fail)) [if_pos, if_neg, wrap_i64, tmod_pos, tdiv_pos, Int.toNat_add] <;> first | rfl | omega) _ (set_ok (l.take _) .no (by rw [List.length_take]; omega) _ _ _ _ _ hw0) ?_
        rintro _ h2 ⟨F', hw2, hk2⟩
        have hkl := hk2.1
        refine goesT_eq (by simp (disch := (first | omega | (simp; done) | fail)) [if_pos, if_neg, wrap_i64, tmod_pos, tdiv_pos, Int.toNat_add]; rfl) ?_
        refine goesT_done ?_
        (try simp only [then_normal, then_exit, then_ret, block_normal, block_ret, block_exit, scope_normal, scope_ret, scope_exit, if_true, reduceIte, Nat.reduceEqDiff, reduceCtorEq])
        first | refine body_all (.inr rfl) (by simp; rfl) (by simp; rfl) (by first | (simp; done) | (simp; omega) | omega) ?_ | refine body_all (.inl rfl) (by simp; rfl) (by simp; rfl) (by first | (simp; done) | (simp; omega) | omega) ?_
        exact ⟨_, dk_eq hw2 (by omega) (by omega), hk2⟩
      · refine goesT_callS (callable_of Try.func15) (by simp (disch := (first | omega | (simp; done) | fail)) [if_pos, if_neg, wrap_i64, tmod_pos, tdiv_pos, Int.toNat_add] <;> first | rfl | omega) _ (dirty_ok _ _ _ _ _ hl hs hw0) ?_
        rintro _ _ ⟨rfl, rfl⟩
        refine goesT_eq (by simp (disch := (first | omega | (simp; done) | fail)) [if_pos, if_neg, wrap_i64, tmod_pos, tdiv_pos, Int.toNat_add, w3, h1, e0]; rfl) ?_
        refine goesT_callS (callable_of Try.func24) (by simp (disch := (first | omega | (simp; done) | fail)) [if_pos, if_neg, wrap_i64, tmod_pos, tdiv_pos, Int.toNat_add] <;> first | rfl | omega) _ (set_ok (l.take _) .no (by rw [List.length_take]; omega) _ _ _ _ _ hw0) ?_
        rintro _ h2 ⟨F', hw2, hk2⟩
        have hkl := hk2.1
        refine goesT_eq (by simp (disch := (first | omega | (simp; done) | fail)) [if_pos, if_neg, wrap_i64, tmod_pos, tdiv_pos, Int.toNat_add]; rfl) ?_
        refine goesT_done ?_
        (try simp only [then_normal, then_exit, then_ret, block_normal, block_ret, block_exit, scope_normal, scope_ret, scope_exit, if_true, reduceIte, Nat.reduceEqDiff, reduceCtorEq])
        first | refine body_all (.inr rfl) (by simp; rfl) (by simp; rfl) (by first | (simp; done) | (simp; omega) | omega) ?_ | refine body_all (.inl rfl) (by simp; rfl) (by simp; rfl) (by first | (simp; done) | (simp; omega) | omega) ?_
        exact ⟨_, dk_eq hw2 (by omega) (by omega), hk2⟩
    · refine goesT_callS (callable_of Try.func15) (by simp (disch := (first | omega | (simp; done) | fail)) [if_pos, if_neg, wrap_i64, tmod_pos, tdiv_pos, Int.toNat_add] <;> first | rfl | omega) _ (dirty_ok _ _ _ _ _ hl hs hw0) ?_
      rintro _ _ ⟨rfl, rfl⟩
      refine goesT_eq (by simp (disch := (first | omega | (simp; done) | fail)) [if_pos, if_neg, wrap_i64, tmod_pos, tdiv_pos, Int.toNat_add, w3]; rfl) ?_
      refine goesT_two (goesT_eq (by simp (disch := (first | omega | (simp; done) | fail)) [if_pos, if_neg, wrap_i64, tmod_pos, tdiv_pos, Int.toNat_add, w3, h1, e0]; rfl) ?_) (goesT_eq (by simp (disch := (first | omega | (simp; done) | fail)) [if_pos, if_neg, wrap_i64, tmod_pos, tdiv_pos, Int.toNat_add, w3, h1, e0]; rfl) ?_)
      · refine goesT_callS (callable_of Try.func24) (by simp (disch := (first | omega | (simp; done) | fail)) [if_pos, if_neg, wrap_i64, tmod_pos, tdiv_pos, Int.toNat_add] <;> first | rfl | omega) _ (set_ok (l.take _) .no (by rw [List.length_take]; omega) _ _ _ _ _ hw0) ?_
        rintro _ h2 ⟨F', hw2, hk2⟩
        have hkl := hk2.1
        refine goesT_eq (by simp (disch := (first | omega | (simp; done) | fail)) [if_pos, if_neg, wrap_i64, tmod_pos, tdiv_pos, Int.toNat_add]; rfl) ?_
        refine goesT_done ?_
        (try simp only [then_normal, then_exit, then_ret, block_normal, block_ret, block_exit, scope_normal, scope_ret, scope_exit, if_true, reduceIte, Nat.reduceEqDiff, reduceCtorEq])
        first | refine body_all (.inr rfl) (by simp; rfl) (by simp; rfl) (by first | (simp; done) | (simp; omega) | omega) ?_ | refine body_all (.inl rfl) (by simp; rfl) (by simp; rfl) (by first | (simp; done) | (simp; omega) | omega) ?_
        exact ⟨_, dk_eq hw2 (by omega) (by omega), hk2⟩
      · refine goesT_callS (callable_of Try.func24) (by simp (disch := (first | omega | (simp; done) | fail)) [if_pos, if_neg, wrap_i64, tmod_pos, tdiv_pos, Int.toNat_add] <;> first | rfl | omega) _ (set_ok (l.take _) .no (by rw [List.length_take]; omega) _ _ _ _ _ hw0) ?_
        rintro _ h2 ⟨F', hw2, hk2⟩
        have hkl := hk2.1
        refine goesT_eq (by simp (disch := (first | omega | (simp; done) | fail)) [if_pos, if_neg, wrap_i64, tmod_pos, tdiv_pos, Int.toNat_add]; rfl) ?_
        refine goesT_done ?_
        (try simp only [then_normal, then_exit, then_ret, block_normal, block_ret, block_exit, scope_normal, scope_ret, scope_exit, if_true, reduceIte, Nat.reduceEqDiff, reduceCtorEq])
        first | refine body_all (.inr rfl) (by simp; rfl) (by simp; rfl) (by first | (simp; done) | (simp; omega) | omega) ?_ | refine body_all (.inl rfl) (by simp; rfl) (by simp; rfl) (by first | (simp; done) | (simp; omega) | omega) ?_
        exact ⟨_, dk_eq hw2 (by omega) (by omega), hk2⟩
  · by_cases h2 : ((l.length - s : Nat) : Int) < keep
    · have hk0 : k = l.length - s := by omega
      clear hk
      refine awp_draw (.q 0 (.q 1 (.q 2 (.q 3 (.q 5 (.q 6 (.q 7 (.q 9 (.q 10 (.q 11 (.three 4 8 12 (.two 8 12 (.a 12 (.q 13 (.q 14 (.q 15 (.a 16 (.done)))))) (.q 13 (.a 8 (.q 14 (.q 15 (.a 16 (.done))))))) (.two 4 12 (.a 12 (.q 13 (.q 14 (.q 15 (.a 16 (.done)))))) (.q 13 (.q 14 (.a 4 (.q 15 (.a 16 (.done))))))) (.q 13 (.two 4 8 (.a 8 (.q 14 (.q 15 (.a 16 (.done))))) (.q 14 (.a 4 (.q 15 (.a 16 (.done)))))))))))))))))) (by kernel_rfl) (by kernel_rfl) (tree_start (goesT_eq (by simp (disch := (first | omega | (simp; done) | fail)) [if_pos, if_neg, wrap_i64, tmod_pos, tdiv_pos, Int.toNat_add, w3]; rfl) ?_))
      refine goesT_three (goesT_eq (by simp (disch := (first | omega | (simp; done) | fail)) [if_pos, if_neg, wrap_i64, tmod_pos, tdiv_pos, Int.toNat_add, w3]; rfl) ?_) (goesT_eq (by simp (disch := (first | omega | (simp; done) | fail)) [if_pos, if_neg, wrap_i64, tmod_pos, tdiv_pos, Int.toNat_add, w3]; rfl) ?_) (goesT_eq (by simp (disch := (first | omega | (simp; done) | fail)) [if_pos, if_neg, wrap_i64, tmod_pos, tdiv_pos, Int.toNat_add, w3]; rfl) ?_)
      · refine goesT_two (goesT_eq (by simp (disch := (first | omega | (simp; done) | fail)) [if_pos, if_neg, wrap_i64, tmod_pos, tdiv_pos, Int.toNat_add, w3]; rfl) ?_) (goesT_eq (by simp (disch := (first | omega | (simp; done) | fail)) [if_pos, if_neg, wrap_i64, tmod_pos, tdiv_pos, Int.toNat_add, w3]; rfl) ?_)
        · refine goesT_callS (callable_of Try.func15) (by simp (disch := (first | omega | (simp; done) | fail)) [if_pos, if_neg, wrap_i64, tmod_pos, tdiv_pos, Int.toNat_add] <;> first | rfl | omega) _ (dirty_ok _ _ _ _ _ hl hs hw0) ?_
          rintro _ _ ⟨rfl, rfl⟩
          refine goesT_eq (by simp (disch := (first | omega | (simp; done) | fail)) [if_pos, if_neg, wrap_i64, tmod_pos, tdiv_pos, Int.toNat_add, w3, h1, h2]; rfl) ?_
          refine goesT_callS (callable_of Try.func24) (by simp (disch := (first | omega | (simp; done) | fail)) [if_pos, if_neg, wrap_i64, tmod_pos, tdiv_pos, Int.toNat_add] <;> first | rfl | omega) _ (set_ok l .no hl _ _ _ _ _ hw0) ?_
          rintro _ h2 ⟨F', hw2, hk2⟩
          have hkl := hk2.1
          refine goesT_eq (by simp (disch := (first | omega | (simp; done) | fail)) [if_pos, if_neg, wrap_i64, tmod_pos, tdiv_pos, Int.toNat_add]; rfl) ?_
          refine goesT_done ?_
          (try simp only [then_normal, then_exit, then_ret, block_normal, block_ret, block_exit, scope_normal, scope_ret, scope_exit, if_true, reduceIte, Nat.reduceEqDiff, reduceCtorEq])
          first | refine body_all (.inr rfl) (by simp; rfl) (by simp; rfl) (by first | (simp; done) | (simp; omega) | omega) ?_ | refine body_all (.inl rfl) (by simp; rfl) (by simp; rfl) (by first | (simp; done) | (simp; omega) | omega) ?_
          exact ⟨_, dk_all hw2 (by omega), hk2⟩
        · refine goesT_callS (callable_of Try.func15) (by simp (disch := (first | omega | (simp; done) | fail)) [if_pos, if_neg, wrap_i64, tmod_pos, tdiv_pos, Int.toNat_add] <;> first | rfl | omega) _ (dirty_ok _ _ _ _ _ hl hs hw0) ?_
          rintro _ _ ⟨rfl, rfl⟩
          refine goesT_eq (by simp (disch := (first | omega | (simp; done) | fail)) [if_pos, if_neg, wrap_i64, tmod_pos, tdiv_pos, Int.toNat_add, w3, h1, h2]; rfl) ?_
          refine goesT_callS (callable_of Try.func24) (by simp (disch := (first | omega | (simp; done) | fail)) [if_pos, if_neg, wrap_i64, tmod_pos, tdiv_pos, Int.toNat_add] <;> first | rfl | omega) _ (set_ok l .no hl _ _ _ _ _ hw0) ?_
          rintro _ h2 ⟨F', hw2, hk2⟩
          have hkl := hk2.1
          refine goesT_eq (by simp (disch := (first | omega | (simp; done) | fail)) [if_pos, if_neg, wrap_i64, tmod_pos, tdiv_pos, Int.toNat_add]; rfl) ?_
          refine goesT_done ?_
          (try simp only [then_normal, then_exit, then_ret, block_normal, block_ret, block_exit, scope_normal, scope_ret, scope_exit, if_true, reduceIte, Nat.reduceEqDiff, reduceCtorEq])
          first | refine body_all (.inr rfl) (by simp; rfl) (by simp; rfl) (by first | (simp; done) | (simp; omega) | omega) ?_ | refine body_all (.inl rfl) (by simp; rfl) (by simp; rfl) (by first | (simp; done) | (simp; omega) | omega) ?_
          exact ⟨_, dk_all hw2 (by omega), hk2⟩
      · refine goesT_two (goesT_eq (by simp (disch := (first | omega | (simp; done) | fail)) [if_pos, if_neg, wrap_i64, tmod_pos, tdiv_pos, Int.toNat_add, w3]; rfl) ?_) (goesT_eq (by simp (disch := (first | omega | (simp; done) | fail)) [if_pos, if_neg, wrap_i64, tmod_pos, tdiv_pos, Int.toNat_add, w3]; rfl) ?_)
        · refine goesT_callS (callable_of Try.func15) (by simp (disch := (first | omega | (simp; done) | fail)) [if_pos, if_neg, wrap_i64, tmod_pos, tdiv_pos, Int.toNat_add] <;> first | rfl | omega) _ (dirty_ok _ _ _ _ _ hl hs hw0) ?_
          rintro _ _ ⟨rfl, rfl⟩
          refine goesT_eq (by simp (disch := (first | omega | (simp; done) | fail)) [if_pos, if_neg, wrap_i64, tmod_pos, tdiv_pos, Int.toNat_add, w3, h1, h2]; rfl) ?_
          refine goesT_callS (callable_of Try.func24) (by simp (disch := (first | omega | (simp; done) | fail)) [if_pos, if_neg, wrap_i64, tmod_pos, tdiv_pos, Int.toNat_add] <;> first | rfl | omega) _ (set_ok l .no hl _ _ _ _ _ hw0) ?_
          rintro _ h2 ⟨F', hw2, hk2⟩
          have hkl := hk2.1
          refine goesT_eq (by simp (disch := (first | omega | (simp; done) | fail)) [if_pos, if_neg, wrap_i64, tmod_pos, tdiv_pos, Int.toNat_add]; rfl) ?_
          refine goesT_done ?_
          (try simp only [then_normal, then_exit, then_ret, block_normal, block_ret, block_exit, scope_normal, scope_ret, scope_exit, if_true, reduceIte, Nat.reduceEqDiff, reduceCtorEq])
          first | refine body_all (.inr rfl) (by simp; rfl) (by simp; rfl) (by first | (simp; done) | (simp; omega) | omega) ?_ | refine body_all (.inl rfl) (by simp; rfl) (by simp; rfl) (by first | (simp; done) | (simp; omega) | omega) ?_
          exact ⟨_, dk_all hw2 (by omega), hk2⟩
        · refine goesT_callS (callable_of Try.func15) (by simp (disch := (first | omega | (simp; done) | fail)) [if_pos, if_neg, wrap_i64, tmod_pos, tdiv_pos, Int.toNat_add] <;> first | rfl | omega) _ (dirty_ok _ _ _ _ _ hl hs hw0) ?_
          rintro _ _ ⟨rfl, rfl⟩
          refine goesT_eq (by simp (disch := (first | omega | (simp; done) | fail)) [if_pos, if_neg, wrap_i64, tmod_pos, tdiv_pos, Int.toNat_add, w3, h1, h2]; rfl) ?_
          refine goesT_callS (callable_of Try.func24) (by simp (disch := (first | omega | (simp; done) | fail)) [if_pos, if_neg, wrap_i64, tmod_pos, tdiv_pos, Int.toNat_add] <;> first | rfl | omega) _ (set_ok l .no hl _ _ _ _ _ hw0) ?_
          rintro _ h2 ⟨F', hw2, hk2⟩
          have hkl := hk2.1
          refine goesT_eq (by simp (disch := (first | omega | (simp; done) | fail)) [if_pos, if_neg, wrap_i64, tmod_pos, tdiv_pos, Int.toNat_add]; rfl) ?_
          refine goesT_done ?_
          (try simp only [then_normal, then_exit, then_ret, block_normal, block_ret, block_exit, scope_normal, scope_ret, scope_exit, if_true, reduceIte, Nat.reduceEqDiff, reduceCtorEq])
          first | refine body_all (.inr rfl) (by simp; rfl) (by simp; rfl) (by first | (simp; done) | (simp; omega) | omega) ?_ | refine body_all (.inl rfl) (by simp; rfl) (by simp; rfl) (by first | (simp; done) | (simp; omega) | omega) ?_
          exact ⟨_, dk_all hw2 (by omega), hk2⟩
      · refine goesT_callS (callable_of Try.func15) (by simp (disch := (first | omega | (simp; done) | fail)) [if_pos, if_neg, wrap_i64, tmod_pos, tdiv_pos, Int.toNat_add] <;> first | rfl | omega) _ (dirty_ok _ _ _ _ _ hl hs hw0) ?_
        rintro _ _ ⟨rfl, rfl⟩
        refine goesT_eq (by simp (disch := (first | omega | (simp; done) | fail)) [if_pos, if_neg, wrap_i64, tmod_pos, tdiv_pos, Int.toNat_add, w3]; rfl) ?_
        refine goesT_two (goesT_eq (by simp (disch := (first | omega | (simp; done) | fail)) [if_pos, if_neg, wrap_i64, tmod_pos, tdiv_pos, Int.toNat_add, w3, h1, h2]; rfl) ?_) (goesT_eq (by simp (disch := (first | omega | (simp; done) | fail)) [if_pos, if_neg, wrap_i64, tmod_pos, tdiv_pos, Int.toNat_add, w3, h1, h2]; rfl) ?_)
        · refine goesT_callS (callable_of Try.func24) (by simp (disch := (first | omega | (simp; done) | fail)) [if_pos, if_neg, wrap_i64, tmod_pos, tdiv_pos, Int.toNat_add] <;> first | rfl | omega) _ (set_ok l .no hl _ _ _ _ _ hw0) ?_
          rintro _ h2 ⟨F', hw2, hk2⟩
          have hkl := hk2.1
          refine goesT_eq (by simp (disch := (first | omega | (simp; done) | fail)) [if_pos, if_neg, wrap_i64, tmod_pos, tdiv_pos, Int.toNat_add]; rfl) ?_
          refine goesT_done ?_
          (try simp only [then_normal, then_exit, then_ret, block_normal, block_ret, block_exit, scope_normal, scope_ret, scope_exit, if_true, reduceIte, Nat.reduceEqDiff, reduceCtorEq])
          first | refine body_all (.inr rfl) (by simp; rfl) (by simp; rfl) (by first | (simp; done) | (simp; omega) | omega) ?_ | refine body_all (.inl rfl) (by simp; rfl) (by simp; rfl) (by first | (simp; done) | (simp; omega) | omega) ?_
          exact ⟨_, dk_all hw2 (by omega), hk2⟩
        · refine goesT_callS (callable_of Try.func24) (by simp (disch := (first | omega | (simp; done) | fail)) [if_pos, if_neg, wrap_i64, tmod_pos, tdiv_pos, Int.toNat_add] <;> first | rfl | omega) _ (set_ok l .no hl _ _ _ _ _ hw0) ?_
          rintro _ h2 ⟨F', hw2, hk2⟩
          have hkl := hk2.1
          refine goesT_eq (by simp (disch := (first | omega | (simp; done) | fail)) [if_pos, if_neg, wrap_i64, tmod_pos, tdiv_pos, Int.toNat_add]; rfl) ?_
          refine goesT_done ?_
          (try simp only [then_normal, then_exit, then_ret, block_normal, block_ret, block_exit, scope_normal, scope_ret, scope_exit, if_true, reduceIte, Nat.reduceEqDiff, reduceCtorEq])
          first | refine body_all (.inr rfl) (by simp; rfl) (by simp; rfl) (by first | (simp; done) | (simp; omega) | omega) ?_ | refine body_all (.inl rfl) (by simp; rfl) (by simp; rfl) (by first | (simp; done) | (simp; omega) | omega) ?_
          exact ⟨_, dk_all hw2 (by omega), hk2⟩
    · obtain ⟨m, rfl⟩ : ∃ m : Nat, keep = m := ⟨keep.toNat, by omega⟩
      have hk0 : k = m := by omega
      clear hk
      refine awp_draw (.q 0 (.q 1 (.q 2 (.q 3 (.q 5 (.q 6 (.q 7 (.q 9 (.q 10 (.q 11 (.three 4 8 12 (.two 8 12 (.a 12 (.q 13 (.q 14 (.q 15 (.a 16 (.done)))))) (.q 13 (.a 8 (.q 14 (.q 15 (.a 16 (.done))))))) (.two 4 12 (.a 12 (.q 13 (.q 14 (.q 15 (.a 16 (.done)))))) (.q 13 (.q 14 (.a 4 (.q 15 (.a 16 (.done))))))) (.q 13 (.two 4 8 (.a 8 (.q 14 (.q 15 (.a 16 (.done))))) (.q 14 (.a 4 (.q 15 (.a 16 (.done)))))))))))))))))) (by kernel_rfl) (by kernel_rfl) (tree_start (goesT_eq (by simp (disch := (first | omega | (simp; done) | fail)) [if_pos, if_neg, wrap_i64, tmod_pos, tdiv_pos, Int.toNat_add, w3]; rfl) ?_))
      refine goesT_three (goesT_eq (by simp (disch := (first | omega | (simp; done) | fail)) [if_pos, if_neg, wrap_i64, tmod_pos, tdiv_pos, Int.toNat_add, w3]; rfl) ?_) (goesT_eq (by simp (disch := (first | omega | (simp; done) | fail)) [if_pos, if_neg, wrap_i64, tmod_pos, tdiv_pos, Int.toNat_add, w3]; rfl) ?_) (goesT_eq (by simp (disch := (first | omega | (simp; done) | fail)) [if_pos, if_neg, wrap_i64, tmod_pos, tdiv_pos, Int.toNat_add, w3]; rfl) ?_)
      · refine goesT_two (goesT_eq (by simp (disch := (first | omega | (simp; done) | fail)) [if_pos, if_neg, wrap_i64, tmod_pos, tdiv_pos, Int.toNat_add, w3]; rfl) ?_) (goesT_eq (by simp (disch := (first | omega | (simp; done) | fail)) [if_pos, if_neg, wrap_i64, tmod_pos, tdiv_pos, Int.toNat_add, w3]; rfl) ?_)
        · refine goesT_callS (callable_of Try.func15) (by simp (disch := (first | omega | (simp; done) | fail)) [if_pos, if_neg, wrap_i64, tmod_pos, tdiv_pos, Int.toNat_add] <;> first | rfl | omega) _ (dirty_ok _ _ _ _ _ hl hs hw0) ?_
          rintro _ _ ⟨rfl, rfl⟩
          refine goesT_eq (by simp (disch := (first | omega | (simp; done) | fail)) [if_pos, if_neg, wrap_i64, tmod_pos, tdiv_pos, Int.toNat_add, w3, h1, h2]; rfl) ?_
          refine goesT_callS (callable_of Try.func24) (by simp (disch := (first | omega | (simp; done) | fail)) [if_pos, if_neg, wrap_i64, tmod_pos, tdiv_pos, Int.toNat_add] <;> first | rfl | omega) _ (set_ok (l.take _) .no (by rw [List.length_take]; omega) _ _ _ _ _ hw0) ?_
          rintro _ h2 ⟨F', hw2, hk2⟩
          have hkl := hk2.1
          refine goesT_eq (by simp (disch := (first | omega | (simp; done) | fail)) [if_pos, if_neg, wrap_i64, tmod_pos, tdiv_pos, Int.toNat_add]; rfl) ?_
          refine goesT_done ?_
          (try simp only [then_normal, then_exit, then_ret, block_normal, block_ret, block_exit, scope_normal, scope_ret, scope_exit, if_true, reduceIte, Nat.reduceEqDiff, reduceCtorEq])
          first | refine body_all (.inr rfl) (by simp; rfl) (by simp; rfl) (by first | (simp; done) | (simp; omega) | omega) ?_ | refine body_all (.inl rfl) (by simp; rfl) (by simp; rfl) (by first | (simp; done) | (simp; omega) | omega) ?_
          exact ⟨_, dk_eq hw2 (by omega) (by omega), hk2⟩
        · refine goesT_callS (callable_of Try.func15) (by simp (disch := (first | omega | (simp; done) | fail)) [if_pos, if_neg, wrap_i64, tmod_pos, tdiv_pos, Int.toNat_add] <;> first | rfl | omega) _ (dirty_ok _ _ _ _ _ hl hs hw0) ?_
          rintro _ _ ⟨rfl, rfl⟩
          refine goesT_eq (by simp (disch := (first | omega | (simp; done) | fail)) [if_pos, if_neg, wrap_i64, tmod_pos, tdiv_pos, Int.toNat_add, w3, h1, h2]; rfl) ?_
          refine goesT_callS (callable_of Try.func24) (by simp (disch := (first | omega | (simp; done) | fail)) [if_pos, if_neg, wrap_i64, tmod_pos, tdiv_pos, Int.toNat_add] <;> first | rfl | omega) _ (set_ok (l.take _) .no (by rw [List.length_take]; omega) _ _ _ _ _ hw0) ?_
          rintro _ h2 ⟨F', hw2, hk2⟩
          have hkl := hk2.1
          refine goesT_eq (by simp (disch := (first | omega | (simp; done) | fail)) [if_pos, if_neg, wrap_i64, tmod_pos, tdiv_pos, Int.toNat_add]; rfl) ?_
          refine goesT_done ?_
          (try simp only [then_normal, then_exit, then_ret, block_normal, block_ret, block_exit, scope_normal, scope_ret, scope_exit, if_true, reduceIte, Nat.reduceEqDiff, reduceCtorEq])
          first | refine body_all (.inr rfl) (by simp; rfl) (by simp; rfl) (by first | (simp; done) | (simp; omega) | omega) ?_ | refine body_all (.inl rfl) (by simp; rfl) (by simp; rfl) (by first | (simp; done) | (simp; omega) | omega) ?_
          exact ⟨_, dk_eq hw2 (by omega) (by omega), hk2⟩
      · refine goesT_two (goesT_eq (by simp (disch := (first | omega | (simp; done) | fail)) [if_pos, if_neg, wrap_i64, tmod_pos, tdiv_pos, Int.toNat_add, w3]; rfl) ?_) (goesT_eq (by simp (disch := (first | omega | (simp; done) | fail)) [if_pos, if_neg, wrap_i64, tmod_pos, tdiv_pos, Int.toNat_add, w3]; rfl) ?_)
        · refine goesT_callS (callable_of Try.func15) (by simp (disch := (first | omega | (simp; done) | fail)) [if_pos, if_neg, wrap_i64, tmod_pos, tdiv_pos, Int.toNat_add] <;> first | rfl | omega) _ (dirty_ok _ _ _ _ _ hl hs hw0) ?_
          rintro _ _ ⟨rfl, rfl⟩
          refine goesT_eq (by simp (disch := (first | omega | (simp; done) | fail)) [if_pos, if_neg, wrap_i64, tmod_pos, tdiv_pos, Int.toNat_add, w3, h1, h2]; rfl) ?_
          refine goesT_callS (callable_of Try.func24) (by simp (disch := (first | omega | (simp; done) | fail)) [if_pos, if_neg, wrap_i64, tmod_pos, tdiv_pos, Int.toNat_add] <;> first | rfl | omega) _ (set_ok (l.take _) .no (by rw [List.length_take]; omega) _ _ _ _ _ hw0) ?_
          rintro _ h2 ⟨F', hw2, hk2⟩
          have hkl := hk2.1
          refine goesT_eq (by simp (disch := (first | omega | (simp; done) | fail)) [if_pos, if_neg, wrap_i64, tmod_pos, tdiv_pos, Int.toNat_add]; rfl) ?_
          refine goesT_done ?_
          (try simp only [then_normal, then_exit, then_ret, block_normal, block_ret, block_exit, scope_normal, scope_ret, scope_exit, if_true, reduceIte, Nat.reduceEqDiff, reduceCtorEq])
          first | refine body_all (.inr rfl) (by simp; rfl) (by simp; rfl) (by first | (simp; done) | (simp; omega) | omega) ?_ | refine body_all (.inl rfl) (by simp; rfl) (by simp; rfl) (by first | (simp; done) | (simp; omega) | omega) ?_
          exact ⟨_, dk_eq hw2 (by omega) (by omega), hk2⟩
        · refine goesT_callS (callable_of Try.func15) (by simp (disch := (first | omega | (simp; done) | fail)) [if_pos, if_neg, wrap_i64, tmod_pos, tdiv_pos, Int.toNat_add] <;> first | rfl | omega) _ (dirty_ok _ _ _ _ _ hl hs hw0) ?_
          rintro _ _ ⟨rfl, rfl⟩
          refine goesT_eq (by simp (disch := (first | omega | (simp; done) | fail)) [if_pos, if_neg, wrap_i64, tmod_pos, tdiv_pos, Int.toNat_add, w3, h1, h2]; rfl) ?_
          refine goesT_callS (callable_of Try.func24) (by simp (disch := (first | omega | (simp; done) | fail)) [if_pos, if_neg, wrap_i64, tmod_pos, tdiv_pos, Int.toNat_add] <;> first | rfl | omega) _ (set_ok (l.take _) .no (by rw [List.length_take]; omega) _ _ _ _ _ hw0) ?_
          rintro _ h2 ⟨F', hw2, hk2⟩
          have hkl := hk2.1
          refine goesT_eq (by simp (disch := (first | omega | (simp; done) | fail)) [if_pos, if_neg, wrap_i64, tmod_pos, tdiv_pos, Int.toNat_add]; rfl) ?_
          refine goesT_done ?_
          (try simp only [then_normal, then_exit, then_ret, block_normal, block_ret, block_exit, scope_normal, scope_ret, scope_exit, if_true, reduceIte, Nat.reduceEqDiff, reduceCtorEq])
          first | refine body_all (.inr rfl) (by simp; rfl) (by simp; rfl) (by first | (simp; done) | (simp; omega) | omega) ?_ | refine body_all (.inl rfl) (by simp; rfl) (by simp; rfl) (by first | (simp; done) | (simp; omega) | omega) ?_
          exact ⟨_, dk_eq hw2 (by omega) (by omega), hk2⟩
      · refine goesT_callS (callable_of Try.func15) (by simp (disch := (first | omega | (simp; done) | fail)) [if_pos, if_neg, wrap_i64, tmod_pos, tdiv_pos, Int.toNat_add] <;> first | rfl | omega) _ (dirty_ok _ _ _ _ _ hl hs hw0) ?_
        rintro _ _ ⟨rfl, rfl⟩
        refine goesT_eq (by simp (disch := (first | omega | (simp; done) | fail)) [if_pos, if_neg, wrap_i64, tmod_pos, tdiv_pos, Int.toNat_add, w3]; rfl) ?_
        refine goesT_two (goesT_eq (by simp (disch := (first | omega | (simp; done) | fail)) [if_pos, if_neg, wrap_i64, tmod_pos, tdiv_pos, Int.toNat_add, w3, h1, h2]; rfl) ?_) (goesT_eq (by simp (disch := (first | omega | (simp; done) | fail)) [if_pos, if_neg, wrap_i64, tmod_pos, tdiv_pos, Int.toNat_add, w3, h1, h2]; rfl) ?_)
        · refine goesT_callS (callable_of Try.func24) (by simp (disch := (first | omega | (simp; done) | fail)) [if_pos, if_neg, wrap_i64, tmod_pos, tdiv_pos, Int.toNat_add] <;> first | rfl | omega) _ (set_ok (l.take _) .no (by rw [List.length_take]; omega) _ _ _ _ _ hw0) ?_
          rintro _ h2 ⟨F', hw2, hk2⟩
          have hkl := hk2.1
          refine goesT_eq (by simp (disch := (first | omega | (simp; done) | fail)) [if_pos, if_neg, wrap_i64, tmod_pos, tdiv_pos, Int.toNat_add]; rfl) ?_
          refine goesT_done ?_
          (try simp only [then_normal, then_exit, then_ret, block_normal, block_ret, block_exit, scope_normal, scope_ret, scope_exit, if_true, reduceIte, Nat.reduceEqDiff, reduceCtorEq])
          first | refine body_all (.inr rfl) (by simp; rfl) (by simp; rfl) (by first | (simp; done) | (simp; omega) | omega) ?_ | refine body_all (.inl rfl) (by simp; rfl) (by simp; rfl) (by first | (simp; done) | (simp; omega) | omega) ?_
          exact ⟨_, dk_eq hw2 (by omega) (by omega), hk2⟩
        · refine goesT_callS (callable_of Try.func24) (by simp (disch := (first | omega | (simp; done) | fail)) [if_pos, if_neg, wrap_i64, tmod_pos, tdiv_pos, Int.toNat_add] <;> first | rfl | omega) _ (set_ok (l.take _) .no (by rw [List.length_take]; omega) _ _ _ _ _ hw0) ?_
          rintro _ h2 ⟨F', hw2, hk2⟩
          have hkl := hk2.1
          refine goesT_eq (by simp (disch := (first | omega | (simp; done) | fail)) [if_pos, if_neg, wrap_i64, tmod_pos, tdiv_pos, Int.toNat_add]; rfl) ?_
          refine goesT_done ?_
          (try simp only [then_normal, then_exit, then_ret, block_normal, block_ret, block_exit, scope_normal, scope_ret, scope_exit, if_true, reduceIte, Nat.reduceEqDiff, reduceCtorEq])
          first | refine body_all (.inr rfl) (by simp; rfl) (by simp; rfl) (by first | (simp; done) | (simp; omega) | omega) ?_ | refine body_all (.inl rfl) (by simp; rfl) (by simp; rfl) (by first | (simp; done) | (simp; omega) | omega) ?_
          exact ⟨_, dk_eq hw2 (by omega) (by omega), hk2⟩
theorem open_ok (h : AHeap) (F : Nat → Prop) (id : Nat) (l : List UInt8) (s : Nat) (hl : l.length ≤ 1000000) (hw : Dk h F id l s) :
    ACalls Try.prog 13 [.ptr id 0] h fun r h' => r = .list ((allB l).1.map byV) .no ∧ ∃ F', Dk h' F' id (l.take (allB l).2) (allB l).2 ∧ Kept h F h' F' := by
  have hw0 := hw
  obtain ⟨w1, w2, t, w3, w4⟩ := hw
  have hal := allB_le l
  have hall : (List.take (allB l).2 l).length = (allB l).2 := by simp; omega
  refine acalls_of_awp Try.func13 rfl (by simp only [List.length_cons, List.length_nil]; decide) ?_
  simp only [params_cons, params_nil]
  repeat (first | (refine goes_done ?_; (try simp only [then_normal, then_exit, then_ret, block_normal, block_ret, block_exit, scope_normal, scope_ret, scope_exit, if_true, reduceIte, Nat.reduceEqDiff, reduceCtorEq])) | refine awp_seq ?_ | refine awp_region' (run_start (goes_eq (by simp (disch := (first | omega | (simp; done) | fail)) [if_pos, if_neg, wrap_i64, tmod_pos, tdiv_pos, Int.toNat_add, w3]; rfl) ?_)) | refine awp_block ?_ | refine awp_scope ?_ | (refine awp_exit ?_; (try simp only [then_normal, then_exit, then_ret, block_normal, block_ret, block_exit, scope_normal, scope_ret, scope_exit, if_true, reduceIte, Nat.reduceEqDiff, reduceCtorEq])) | (refine awp_skip ?_; (try simp only [then_normal, then_exit, then_ret, block_normal, block_ret, block_exit, scope_normal, scope_ret, scope_exit, if_true, reduceIte, Nat.reduceEqDiff, reduceCtorEq])) | (refine awp_label ?_; (try simp only [then_normal, then_exit, then_ret, block_normal, block_ret, block_exit, scope_normal, scope_ret, scope_exit, if_true, reduceIte, Nat.reduceEqDiff, reduceCtorEq])) | (refine awp_ret ?_; (try simp only [then_normal, then_exit, then_ret, block_normal, block_ret, block_exit, scope_normal, scope_ret, scope_exit, if_true, reduceIte, Nat.reduceEqDiff, reduceCtorEq])) | refine awp_cond_t rfl ?_ | refine awp_cond_f rfl ?_)
  refine goes_callS (callable_of Try.func25) (by simp (disch := (first | omega | (simp; done) | fail)) [if_pos, if_neg, wrap_i64, tmod_pos, tdiv_pos, Int.toNat_add] <;> first | rfl | omega) _ (all_ok l .no hl _) ?_
  rintro _ h1 ⟨rfl, rfl⟩
  refine goes_eq (by simp (disch := (first | omega | (simp; done) | fail)) [if_pos, if_neg, wrap_i64, tmod_pos, tdiv_pos, Int.toNat_add, w3, hal]; rfl) ?_
  repeat (first | (refine goes_done ?_; (try simp only [then_normal, then_exit, then_ret, block_normal, block_ret, block_exit, scope_normal, scope_ret, scope_exit, if_true, reduceIte, Nat.reduceEqDiff, reduceCtorEq])) | refine awp_seq ?_ | refine awp_region' (run_start (goes_eq (by simp (disch := (first | omega | (simp; done) | fail)) [if_pos, if_neg, wrap_i64, tmod_pos, tdiv_pos, Int.toNat_add, w3, hal]; rfl) ?_)) | refine awp_block ?_ | refine awp_scope ?_ | (refine awp_exit ?_; (try simp only [then_normal, then_exit, then_ret, block_normal, block_ret, block_exit, scope_normal, scope_ret, scope_exit, if_true, reduceIte, Nat.reduceEqDiff, reduceCtorEq])) | (refine awp_skip ?_; (try simp only [then_normal, then_exit, then_ret, block_normal, block_ret, block_exit, scope_normal, scope_ret, scope_exit, if_true, reduceIte, Nat.reduceEqDiff, reduceCtorEq])) | (refine awp_label ?_; (try simp only [then_normal, then_exit, then_ret, block_normal, block_ret, block_exit, scope_normal, scope_ret, scope_exit, if_true, reduceIte, Nat.reduceEqDiff, reduceCtorEq])) | (refine awp_ret ?_; (try simp only [then_normal, then_exit, then_ret, block_normal, block_ret, block_exit, scope_normal, scope_ret, scope_exit, if_true, reduceIte, Nat.reduceEqDiff, reduceCtorEq])) | refine awp_cond_t rfl ?_ | refine awp_cond_f rfl ?_)
  refine goes_callS (callable_of Try.func24) (by simp (disch := (first | omega | (simp; done) | fail)) [if_pos, if_neg, wrap_i64, tmod_pos, tdiv_pos, Int.toNat_add] <;> first | rfl | omega) _ (set_ok (l.take (allB l).2) .no (by simp; omega) _ _ _ _ _ hw0) ?_
  rintro _ h2 ⟨F', hw2, hk2⟩
  rw [hall] at hw2
  have hkl := hk2.1
  refine goes_eq (by simp (disch := (first | omega | (simp; done) | fail)) [if_pos, if_neg, wrap_i64, tmod_pos, tdiv_pos, Int.toNat_add]; rfl) ?_
  repeat (first | (refine goes_done ?_; (try simp only [then_normal, then_exit, then_ret, block_normal, block_ret, block_exit, scope_normal, scope_ret, scope_exit, if_true, reduceIte, Nat.reduceEqDiff, reduceCtorEq])) | refine awp_seq ?_ | refine awp_region' (run_start (goes_eq (by simp (disch := (first | omega | (simp; done) | fail)) [if_pos, if_neg, wrap_i64, tmod_pos, tdiv_pos, Int.toNat_add]; rfl) ?_)) | refine awp_block ?_ | refine awp_scope ?_ | (refine awp_exit ?_; (try simp only [then_normal, then_exit, then_ret, block_normal, block_ret, block_exit, scope_normal, scope_ret, scope_exit, if_true, reduceIte, Nat.reduceEqDiff, reduceCtorEq])) | (refine awp_skip ?_; (try simp only [then_normal, then_exit, then_ret, block_normal, block_ret, block_exit, scope_normal, scope_ret, scope_exit, if_true, reduceIte, Nat.reduceEqDiff, reduceCtorEq])) | (refine awp_label ?_; (try simp only [then_normal, then_exit, then_ret, block_normal, block_ret, block_exit, scope_normal, scope_ret, scope_exit, if_true, reduceIte, Nat.reduceEqDiff, reduceCtorEq])) | (refine awp_ret ?_; (try simp only [then_normal, then_exit, then_ret, block_normal, block_ret, block_exit, scope_normal, scope_ret, scope_exit, if_true, reduceIte, Nat.reduceEqDiff, reduceCtorEq])) | refine awp_cond_t rfl ?_ | refine awp_cond_f rfl ?_)
  first | refine body_all (.inr rfl) (by simp; rfl) (by simp; rfl) (by first | (simp; done) | (simp; omega) | omega) ?_ | refine body_all (.inl rfl) (by simp; rfl) (by simp; rfl) (by first | (simp; done) | (simp; omega) | omega) ?_
  exact ⟨by simp [byV], _, hw2, hk2⟩
end Go.Proofs.Ytfhldddjjbdlbaa.K
