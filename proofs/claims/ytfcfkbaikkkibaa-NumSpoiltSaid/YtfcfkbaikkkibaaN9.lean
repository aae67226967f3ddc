/- Numbers as bytes: the document's examples. -/
import Derived.Test.YtfcfkbaikkkibaaN8
import Derived.Test.YtfcfkbaikkkibaaV20
set_option linter.unusedVariables false
set_option linter.unusedSimpArgs false
set_option maxRecDepth 20000
namespace Go.Proofs.Ytfcfkbaikkkibaa.N
open Go Go.Proofs.Ytfcfkbaikkkibaa.V
attribute [-simp] List.map_take List.map_drop
attribute [local simp] take_map drop_map List.take_take
theorem wr_new (h : AHeap) : Wr (h ++ [.cells [.list [] .full, .bool false]]) (fun k => k = h.length) h.length [] false :=
  ⟨fun k hk => by subst hk; simp, rfl, .full, by simp, .inl rfl⟩
theorem app_of {h h' : AHeap} (hl : h.length ≤ h'.length) (hk : ∀ k, k < h.length → h'[k]? = h[k]?) : ∃ y, h' = h ++ y :=
  ⟨h'.drop h.length, by
    have e : h'.take h.length = h := by
      apply List.ext_getElem?
      intro i
      rw [List.getElem?_take]
      split
      · exact hk i (by assumption)
      · rw [List.getElem?_eq_none (by omega)]
    calc h' = h'.take h.length ++ h'.drop h.length := (List.take_append_drop _ _).symm
      _ = h ++ h'.drop h.length := by rw [e]⟩
/-- What a writer that is new has written stands behind what was there. -/
theorem Kept.app {h x h' : AHeap} {F F' : Nat → Prop} (a : Kept (h ++ x) F h' F') (hF : ∀ k, F k → h.length ≤ k) : ∃ y, h' = h ++ y :=
  app_of (by have := a.1; simp at this; omega) fun k hk => by
    rw [a.2.1 k (by simp; omega) (fun hf => by have := hF k hf; omega), List.getElem?_append_left hk]
/-- The heap with a reader at its end. -/
def rs (l : List UInt8) (t : Tok) (e : Nat) : AHeap := [.cells [.list (l.map b8) t, .int .i64 (e : Nat)]]
theorem rd_at (h : AHeap) (l : List UInt8) (t : Tok) (e : Nat) : Rd (h ++ rs l t e) h.length l e := ⟨t, by simp [rs]⟩
theorem set_at (h : AHeap) (l : List UInt8) (t : Tok) (e : Nat) (x : AObj) : (h ++ rs l t e).set h.length x = h ++ [x] := by
  simp [rs]
theorem of_at (l : List UInt8) (t : Tok) (h : AHeap) : ACalls Try.prog 16 [.list (l.map b8) t] h fun r h' => r = .ptr h.length 0 ∧ ∃ t', h' = h ++ rs l t' 0 := rof_ok l t h
theorem left_at (h : AHeap) (l : List UInt8) (t : Tok) (e : Nat) : ACalls Try.prog 20 [.ptr h.length 0] (h ++ rs l t e) fun r h' => r = .int .i64 (l.length : Nat) ∧ h' = h ++ rs l t e := rleft_ok _ _ _ _ (rd_at h l t e)
theorem end_at (h : AHeap) (l : List UInt8) (t : Tok) (e : Nat) : ACalls Try.prog 19 [.ptr h.length 0] (h ++ rs l t e) fun r h' => r = .int .i64 ((if e = 0 ∧ l ≠ [] then 11 else e : Nat) : Nat) ∧ h' = h ++ rs l t e := rend_ok _ _ _ _ (rd_at h l t e)
theorem num_at (h : AHeap) (n : Nat) (l : List UInt8) (t : Tok) (hn : n ≤ 281474976710656) (hl : (nb n ++ l).length ≤ 100000000) :
    ACalls Try.prog 18 [.ptr h.length 0] (h ++ rs (nb n ++ l) t 0) fun r h' => r = .int .i64 (n : Nat) ∧ ∃ t', h' = h ++ rs l t' 0 :=
  (rnum_read _ _ n l hn hl (rd_at h _ t 0)).mono fun r h' ⟨a, t', b⟩ => ⟨a, t', by rw [b, set_at]; rfl⟩
theorem num_bad (h : AHeap) (l : List UInt8) (t : Tok) (he : (numB l).2.2 ≠ 0) (hl : l.length ≤ 100000000) :
    ACalls Try.prog 18 [.ptr h.length 0] (h ++ rs l t 0) fun r h' => r = .int .i64 0 ∧ ∃ t', h' = h ++ rs l t' (numB l).2.2 :=
  (rnum_fail _ _ l he hl (rd_at h _ t 0)).mono fun r h' ⟨a, t', b⟩ => ⟨a, t', by rw [b, set_at]; rfl⟩
theorem text_at (h : AHeap) (m : Nat) (s l : List UInt8) (t : Tok) (hn : s.length ≤ m) (hm : m ≤ 100000000) (hl : (nb s.length ++ (s ++ l)).length ≤ 100000000) :
    ACalls Try.prog 17 [.ptr h.length 0, .int .i64 (m : Nat)] (h ++ rs (nb s.length ++ (s ++ l)) t 0) fun r h' => r = .str s ∧ ∃ t', h' = h ++ rs l t' 0 :=
  (rtext_read _ _ m s l hn hm hl (rd_at h _ t 0)).mono fun r h' ⟨a, t', b⟩ => ⟨a, t', by rw [b, set_at]; rfl⟩
theorem n300 : nb 300 = [172, 2] := by rw [nb_big (by decide), nb_small (by decide)]; rfl
theorem n2 : nb 2 = [2] := by rw [nb_small (by decide)]; rfl
@[local simp] theorem bytesOf_five (a b c d e : UInt8) : bytesOf [b8 a, b8 b, b8 c, b8 d, b8 e] = some [a, b, c, d, e] := bytesOf_map (l := [a, b, c, d, e])
theorem works_ok (h : AHeap) : ACalls Try.prog 8 [] h fun r h' => r = .bool true ∧ h' = h := by
  refine acalls_of_awp Try.func8 rfl (by simp only [List.length_cons, List.length_nil]; decide) ?_
  simp only [params_cons, params_nil]
  repeat (first | (refine goes_done ?_; (try simp only [then_normal, then_exit, then_ret, block_normal, block_ret, block_exit, scope_normal, scope_ret, scope_exit, if_true, reduceIte, Nat.reduceEqDiff, reduceCtorEq])) | refine awp_seq ?_ | refine awp_region' (run_start (goes_eq (by simp (disch := (first | omega | (simp; done) | fail)) [if_pos, if_neg, wrap_i64, tmod_pos, tdiv_pos, Int.toNat_add]; rfl) ?_)) | refine awp_block ?_ | refine awp_scope ?_ | (refine awp_exit ?_; (try simp only [then_normal, then_exit, then_ret, block_normal, block_ret, block_exit, scope_normal, scope_ret, scope_exit, if_true, reduceIte, Nat.reduceEqDiff, reduceCtorEq])) | (refine awp_skip ?_; (try simp only [then_normal, then_exit, then_ret, block_normal, block_ret, block_exit, scope_normal, scope_ret, scope_exit, if_true, reduceIte, Nat.reduceEqDiff, reduceCtorEq])) | (refine awp_label ?_; (try simp only [then_normal, then_exit, then_ret, block_normal, block_ret, block_exit, scope_normal, scope_ret, scope_exit, if_true, reduceIte, Nat.reduceEqDiff, reduceCtorEq])) | (refine awp_ret ?_; (try simp only [then_normal, then_exit, then_ret, block_normal, block_ret, block_exit, scope_normal, scope_ret, scope_exit, if_true, reduceIte, Nat.reduceEqDiff, reduceCtorEq])) | refine awp_cond_t rfl ?_ | refine awp_cond_f rfl ?_)
  refine goes_callS (callable_of Try.func9) (by simp (disch := (first | omega | (simp; done) | fail)) [if_pos, if_neg, wrap_i64, tmod_pos, tdiv_pos, Int.toNat_add] <;> first | rfl | omega) _ (new_ok _) ?_
  rintro _ _ ⟨rfl, rfl⟩
  have hw := wr_new h
  refine goes_eq (by simp (disch := (first | omega | (simp; done) | fail)) [if_pos, if_neg, wrap_i64, tmod_pos, tdiv_pos, Int.toNat_add]; rfl) ?_
  repeat (first | (refine goes_done ?_; (try simp only [then_normal, then_exit, then_ret, block_normal, block_ret, block_exit, scope_normal, scope_ret, scope_exit, if_true, reduceIte, Nat.reduceEqDiff, reduceCtorEq])) | refine awp_seq ?_ | refine awp_region' (run_start (goes_eq (by simp (disch := (first | omega | (simp; done) | fail)) [if_pos, if_neg, wrap_i64, tmod_pos, tdiv_pos, Int.toNat_add]; rfl) ?_)) | refine awp_block ?_ | refine awp_scope ?_ | (refine awp_exit ?_; (try simp only [then_normal, then_exit, then_ret, block_normal, block_ret, block_exit, scope_normal, scope_ret, scope_exit, if_true, reduceIte, Nat.reduceEqDiff, reduceCtorEq])) | (refine awp_skip ?_; (try simp only [then_normal, then_exit, then_ret, block_normal, block_ret, block_exit, scope_normal, scope_ret, scope_exit, if_true, reduceIte, Nat.reduceEqDiff, reduceCtorEq])) | (refine awp_label ?_; (try simp only [then_normal, then_exit, then_ret, block_normal, block_ret, block_exit, scope_normal, scope_ret, scope_exit, if_true, reduceIte, Nat.reduceEqDiff, reduceCtorEq])) | (refine awp_ret ?_; (try simp only [then_normal, then_exit, then_ret, block_normal, block_ret, block_exit, scope_normal, scope_ret, scope_exit, if_true, reduceIte, Nat.reduceEqDiff, reduceCtorEq])) | refine awp_cond_t rfl ?_ | refine awp_cond_f rfl ?_)
  refine goes_callS (callable_of Try.func12) (by simp (disch := (first | omega | (simp; done) | fail)) [if_pos, if_neg, wrap_i64, tmod_pos, tdiv_pos, Int.toNat_add] <;> first | rfl | omega) _ (wnum_ok 300 (by omega) _ _ _ _ _ hw (by simp)) ?_
  rintro _ h1 ⟨rfl, F1, hw1, hk1⟩
  refine goes_eq (by simp (disch := (first | omega | (simp; done) | fail)) [if_pos, if_neg, wrap_i64, tmod_pos, tdiv_pos, Int.toNat_add]; rfl) ?_
  refine goes_callS (callable_of Try.func10) (by simp (disch := (first | omega | (simp; done) | fail)) [if_pos, if_neg, wrap_i64, tmod_pos, tdiv_pos, Int.toNat_add] <;> first | rfl | omega) _ (wtext_ok [104, 105] (by simp) _ _ _ _ _ hw1 (by simp [n300])) ?_
  rintro _ h2 ⟨rfl, F2, hw2, hk2⟩
  refine goes_eq (by simp (disch := (first | omega | (simp; done) | fail)) [if_pos, if_neg, wrap_i64, tmod_pos, tdiv_pos, Int.toNat_add]; rfl) ?_
  refine goes_callS (callable_of Try.func15) (by simp (disch := (first | omega | (simp; done) | fail)) [if_pos, if_neg, wrap_i64, tmod_pos, tdiv_pos, Int.toNat_add] <;> first | rfl | omega) _ (wbytes_ok _ _ _ _ hw2 (by simp [n300, n2])) ?_
  rintro _ _ ⟨rfl, rfl⟩
  obtain ⟨y, hy⟩ := (hk1.trans hk2).app (fun k hk => by omega)
  refine goes_eq (by simp (disch := (first | omega | (simp; done) | fail)) [if_pos, if_neg, wrap_i64, tmod_pos, tdiv_pos, Int.toNat_add]; rfl) ?_
  repeat (first | (refine goes_done ?_; (try simp only [then_normal, then_exit, then_ret, block_normal, block_ret, block_exit, scope_normal, scope_ret, scope_exit, if_true, reduceIte, Nat.reduceEqDiff, reduceCtorEq])) | refine awp_seq ?_ | refine awp_region' (run_start (goes_eq (by simp (disch := (first | omega | (simp; done) | fail)) [if_pos, if_neg, wrap_i64, tmod_pos, tdiv_pos, Int.toNat_add]; rfl) ?_)) | refine awp_block ?_ | refine awp_scope ?_ | (refine awp_exit ?_; (try simp only [then_normal, then_exit, then_ret, block_normal, block_ret, block_exit, scope_normal, scope_ret, scope_exit, if_true, reduceIte, Nat.reduceEqDiff, reduceCtorEq])) | (refine awp_skip ?_; (try simp only [then_normal, then_exit, then_ret, block_normal, block_ret, block_exit, scope_normal, scope_ret, scope_exit, if_true, reduceIte, Nat.reduceEqDiff, reduceCtorEq])) | (refine awp_label ?_; (try simp only [then_normal, then_exit, then_ret, block_normal, block_ret, block_exit, scope_normal, scope_ret, scope_exit, if_true, reduceIte, Nat.reduceEqDiff, reduceCtorEq])) | (refine awp_ret ?_; (try simp only [then_normal, then_exit, then_ret, block_normal, block_ret, block_exit, scope_normal, scope_ret, scope_exit, if_true, reduceIte, Nat.reduceEqDiff, reduceCtorEq])) | refine awp_cond_t rfl ?_ | refine awp_cond_f rfl ?_)
  refine goes_callS (callable_of Try.func16) (by simp (disch := (first | omega | (simp; done) | fail)) [if_pos, if_neg, wrap_i64, tmod_pos, tdiv_pos, Int.toNat_add] <;> first | rfl | omega) _ (of_at ([] ++ nb 300 ++ (nb 2 ++ [104, 105])) _ _) ?_
  rintro _ _ ⟨rfl, t, rfl⟩
  refine goes_eq (by simp (disch := (first | omega | (simp; done) | fail)) [if_pos, if_neg, wrap_i64, tmod_pos, tdiv_pos, Int.toNat_add]; rfl) ?_
  repeat (first | (refine goes_done ?_; (try simp only [then_normal, then_exit, then_ret, block_normal, block_ret, block_exit, scope_normal, scope_ret, scope_exit, if_true, reduceIte, Nat.reduceEqDiff, reduceCtorEq])) | refine awp_seq ?_ | refine awp_region' (run_start (goes_eq (by simp (disch := (first | omega | (simp; done) | fail)) [if_pos, if_neg, wrap_i64, tmod_pos, tdiv_pos, Int.toNat_add]; rfl) ?_)) | refine awp_block ?_ | refine awp_scope ?_ | (refine awp_exit ?_; (try simp only [then_normal, then_exit, then_ret, block_normal, block_ret, block_exit, scope_normal, scope_ret, scope_exit, if_true, reduceIte, Nat.reduceEqDiff, reduceCtorEq])) | (refine awp_skip ?_; (try simp only [then_normal, then_exit, then_ret, block_normal, block_ret, block_exit, scope_normal, scope_ret, scope_exit, if_true, reduceIte, Nat.reduceEqDiff, reduceCtorEq])) | (refine awp_label ?_; (try simp only [then_normal, then_exit, then_ret, block_normal, block_ret, block_exit, scope_normal, scope_ret, scope_exit, if_true, reduceIte, Nat.reduceEqDiff, reduceCtorEq])) | (refine awp_ret ?_; (try simp only [then_normal, then_exit, then_ret, block_normal, block_ret, block_exit, scope_normal, scope_ret, scope_exit, if_true, reduceIte, Nat.reduceEqDiff, reduceCtorEq])) | refine awp_cond_t rfl ?_ | refine awp_cond_f rfl ?_)
  refine goes_callS (callable_of Try.func18) (by simp (disch := (first | omega | (simp; done) | fail)) [if_pos, if_neg, wrap_i64, tmod_pos, tdiv_pos, Int.toNat_add] <;> first | rfl | omega) _ (num_at _ 300 (nb 2 ++ ([104, 105] ++ [])) _ (by omega) (by simp [n300, n2])) ?_
  rintro _ _ ⟨rfl, t, rfl⟩
  refine goes_eq (by simp (disch := (first | omega | (simp; done) | fail)) [if_pos, if_neg, wrap_i64, tmod_pos, tdiv_pos, Int.toNat_add]; rfl) ?_
  repeat (first | (refine goes_done ?_; (try simp only [then_normal, then_exit, then_ret, block_normal, block_ret, block_exit, scope_normal, scope_ret, scope_exit, if_true, reduceIte, Nat.reduceEqDiff, reduceCtorEq])) | refine awp_seq ?_ | refine awp_region' (run_start (goes_eq (by simp (disch := (first | omega | (simp; done) | fail)) [if_pos, if_neg, wrap_i64, tmod_pos, tdiv_pos, Int.toNat_add]; rfl) ?_)) | refine awp_block ?_ | refine awp_scope ?_ | (refine awp_exit ?_; (try simp only [then_normal, then_exit, then_ret, block_normal, block_ret, block_exit, scope_normal, scope_ret, scope_exit, if_true, reduceIte, Nat.reduceEqDiff, reduceCtorEq])) | (refine awp_skip ?_; (try simp only [then_normal, then_exit, then_ret, block_normal, block_ret, block_exit, scope_normal, scope_ret, scope_exit, if_true, reduceIte, Nat.reduceEqDiff, reduceCtorEq])) | (refine awp_label ?_; (try simp only [then_normal, then_exit, then_ret, block_normal, block_ret, block_exit, scope_normal, scope_ret, scope_exit, if_true, reduceIte, Nat.reduceEqDiff, reduceCtorEq])) | (refine awp_ret ?_; (try simp only [then_normal, then_exit, then_ret, block_normal, block_ret, block_exit, scope_normal, scope_ret, scope_exit, if_true, reduceIte, Nat.reduceEqDiff, reduceCtorEq])) | refine awp_cond_t rfl ?_ | refine awp_cond_f rfl ?_)
  refine goes_callS (callable_of Try.func17) (by simp (disch := (first | omega | (simp; done) | fail)) [if_pos, if_neg, wrap_i64, tmod_pos, tdiv_pos, Int.toNat_add] <;> first | rfl | omega) _ (text_at _ 9 [104, 105] [] _ (by simp) (by simp) (by simp [n300, n2])) ?_
  rintro _ _ ⟨rfl, t, rfl⟩
  refine goes_eq (by simp (disch := (first | omega | (simp; done) | fail)) [if_pos, if_neg, wrap_i64, tmod_pos, tdiv_pos, Int.toNat_add, n300, n2]; rfl) ?_
  repeat (first | (refine goes_done ?_; (try simp only [then_normal, then_exit, then_ret, block_normal, block_ret, block_exit, scope_normal, scope_ret, scope_exit, if_true, reduceIte, Nat.reduceEqDiff, reduceCtorEq])) | refine awp_seq ?_ | refine awp_region' (run_start (goes_eq (by simp (disch := (first | omega | (simp; done) | fail)) [if_pos, if_neg, wrap_i64, tmod_pos, tdiv_pos, Int.toNat_add, n300, n2]; rfl) ?_)) | refine awp_block ?_ | refine awp_scope ?_ | (refine awp_exit ?_; (try simp only [then_normal, then_exit, then_ret, block_normal, block_ret, block_exit, scope_normal, scope_ret, scope_exit, if_true, reduceIte, Nat.reduceEqDiff, reduceCtorEq])) | (refine awp_skip ?_; (try simp only [then_normal, then_exit, then_ret, block_normal, block_ret, block_exit, scope_normal, scope_ret, scope_exit, if_true, reduceIte, Nat.reduceEqDiff, reduceCtorEq])) | (refine awp_label ?_; (try simp only [then_normal, then_exit, then_ret, block_normal, block_ret, block_exit, scope_normal, scope_ret, scope_exit, if_true, reduceIte, Nat.reduceEqDiff, reduceCtorEq])) | (refine awp_ret ?_; (try simp only [then_normal, then_exit, then_ret, block_normal, block_ret, block_exit, scope_normal, scope_ret, scope_exit, if_true, reduceIte, Nat.reduceEqDiff, reduceCtorEq])) | refine awp_cond_t rfl ?_ | refine awp_cond_f rfl ?_)
  refine goes_callS (callable_of Try.func19) (by simp (disch := (first | omega | (simp; done) | fail)) [if_pos, if_neg, wrap_i64, tmod_pos, tdiv_pos, Int.toNat_add] <;> first | rfl | omega) _ (end_at _ [] _ 0) ?_
  rintro _ _ ⟨rfl, rfl⟩
  refine goes_eq (by simp (disch := (first | omega | (simp; done) | fail)) [if_pos, if_neg, wrap_i64, tmod_pos, tdiv_pos, Int.toNat_add, n300, n2]; rfl) ?_
  refine goes_callS (callable_of Try.func20) (by simp (disch := (first | omega | (simp; done) | fail)) [if_pos, if_neg, wrap_i64, tmod_pos, tdiv_pos, Int.toNat_add] <;> first | rfl | omega) _ (left_at _ [] _ 0) ?_
  rintro _ _ ⟨rfl, rfl⟩
  refine goes_eq (by simp (disch := (first | omega | (simp; done) | fail)) [if_pos, if_neg, wrap_i64, tmod_pos, tdiv_pos, Int.toNat_add]; rfl) ?_
  refine goes_callS (callable_of Try.func14) (by simp (disch := (first | omega | (simp; done) | fail)) [if_pos, if_neg, wrap_i64, tmod_pos, tdiv_pos, Int.toNat_add] <;> first | rfl | omega) _ (size_ok 300 (by omega) _) ?_
  rintro _ _ ⟨rfl, rfl⟩
  refine goes_eq (by simp (disch := (first | omega | (simp; done) | fail)) [if_pos, if_neg, wrap_i64, tmod_pos, tdiv_pos, Int.toNat_add, n300, n2]; rfl) ?_
  repeat (first | (refine goes_done ?_; (try simp only [then_normal, then_exit, then_ret, block_normal, block_ret, block_exit, scope_normal, scope_ret, scope_exit, if_true, reduceIte, Nat.reduceEqDiff, reduceCtorEq])) | refine awp_seq ?_ | refine awp_region' (run_start (goes_eq (by simp (disch := (first | omega | (simp; done) | fail)) [if_pos, if_neg, wrap_i64, tmod_pos, tdiv_pos, Int.toNat_add]; rfl) ?_)) | refine awp_block ?_ | refine awp_scope ?_ | (refine awp_exit ?_; (try simp only [then_normal, then_exit, then_ret, block_normal, block_ret, block_exit, scope_normal, scope_ret, scope_exit, if_true, reduceIte, Nat.reduceEqDiff, reduceCtorEq])) | (refine awp_skip ?_; (try simp only [then_normal, then_exit, then_ret, block_normal, block_ret, block_exit, scope_normal, scope_ret, scope_exit, if_true, reduceIte, Nat.reduceEqDiff, reduceCtorEq])) | (refine awp_label ?_; (try simp only [then_normal, then_exit, then_ret, block_normal, block_ret, block_exit, scope_normal, scope_ret, scope_exit, if_true, reduceIte, Nat.reduceEqDiff, reduceCtorEq])) | (refine awp_ret ?_; (try simp only [then_normal, then_exit, then_ret, block_normal, block_ret, block_exit, scope_normal, scope_ret, scope_exit, if_true, reduceIte, Nat.reduceEqDiff, reduceCtorEq])) | refine awp_cond_t rfl ?_ | refine awp_cond_f rfl ?_)
  rw [hy, List.append_assoc]
  first | refine body_pure (.inr rfl) (by simp; rfl) (by simp; rfl) (by simp) ?_ | refine body_pure (.inl rfl) (by simp; rfl) (by simp; rfl) (by simp) ?_
  simp
end Go.Proofs.Ytfcfkbaikkkibaa.N
