/- Numbers as bytes: the reader. -/
import Derived.Test.YtfcfkbaikkkibaaN7
set_option linter.unusedVariables false
set_option linter.unusedSimpArgs false
set_option maxRecDepth 20000
namespace Go.Proofs.Ytfcfkbaikkkibaa.N
open Go Go.Proofs.Ytfcfkbaikkkibaa.V
attribute [-simp] List.map_take List.map_drop
attribute [local simp] take_map drop_map List.take_take
inductive Dig : List UInt8 → Nat → Prop
  | last (d : UInt8) : d.toNat < 128 → Dig [d] d.toNat
  | more (d : UInt8) (q : List UInt8) (v : Nat) : 128 ≤ d.toNat → Dig q v → Dig (d :: q) (d.toNat % 128 + 128 * v)
theorem Dig.ne {q : List UInt8} {v : Nat} (h : Dig q v) : q ≠ [] := by cases h <;> simp
theorem Dig.eq {q : List UInt8} {v : Nat} (h : Dig q v) (hl : (nb v).length = q.length) : q = nb v := by
  induction h with
  | last d hd => rw [nb_small hd]; congr 1; exact UInt8.toNat_inj.1 (by rw [b8n_toNat]; omega)
  | more d q v hd hq ih =>
    have hq0 : 0 < q.length := List.length_pos_iff.2 hq.ne
    have hlt := d.toNat_lt
    by_cases hs : d.toNat % 128 + 128 * v < 128
    · rw [nb_small hs] at hl; simp only [List.length_cons, List.length_nil] at hl; omega
    · rw [nb_big (by omega)] at hl ⊢
      have e1 : (d.toNat % 128 + 128 * v) / 128 = v := by omega
      have e2 : (d.toNat % 128 + 128 * v) % 128 = d.toNat % 128 := by omega
      rw [e1] at hl ⊢
      rw [e2]
      rw [← ih (by simpa using hl)]
      congr 1
      exact UInt8.toNat_inj.1 (by rw [b8n_toNat]; omega)
theorem numG_inv : ∀ (f i n0 : Nat) (l : List UInt8) (n k : Nat), numG f i n0 l = (n, k, 0) → ∃ q r v, l = q ++ r ∧ k = i + q.length ∧ n = n0 + v * 128 ^ i ∧ szB n = k ∧ Dig q v
  | 0, i, n0, l, n, k, h => by simp [numG] at h
  | f + 1, i, n0, [], n, k, h => by simp [numG] at h
  | f + 1, i, n0, d :: l, n, k, h => by
    have hlt := d.toNat_lt
    rw [numG] at h
    split at h
    · rename_i hd
      obtain ⟨q, r, v, rfl, rfl, rfl, hs, hq⟩ := numG_inv f (i + 1) _ l n k h
      refine ⟨d :: q, r, _, rfl, by simp; omega, ?_, hs, .more d q v hd hq⟩
      rw [Nat.pow_succ]
      simp only [Nat.add_mul, Nat.add_assoc]
      congr 2
      rw [Nat.mul_comm (128 ^ i) 128, ← Nat.mul_assoc, Nat.mul_comm v]
    · rename_i hd
      split at h
      · rename_i hs
        injection h with h1 h2
        injection h2 with h2 h3
        subst h1 h2
        have e : d.toNat % 128 = d.toNat := by omega
        rw [e] at hs ⊢
        exact ⟨[d], l, _, rfl, rfl, rfl, hs, .last d (by omega)⟩
      · simp at h
theorem numB_inv {l : List UInt8} {n k : Nat} (h : numB l = (n, k, 0)) : ∃ r, l = nb n ++ r ∧ k = (nb n).length ∧ n ≤ 281474976710656 := by
  obtain ⟨q, r, v, rfl, rfl, rfl, hs, hq⟩ := numG_inv 8 0 0 l n k h
  have hq0 : 0 < q.length := List.length_pos_iff.2 hq.ne
  simp only [Nat.zero_add, Nat.pow_zero, Nat.mul_one] at hs ⊢
  unfold szB at hs
  split at hs
  · rename_i hv
    rw [← hq.eq hs]
    exact ⟨r, rfl, rfl, hv⟩
  · omega
theorem numG_of : ∀ (m f i n0 : Nat) (r : List UInt8), i + (nb m).length ≤ f + i → szB (n0 + m * 128 ^ i) = i + (nb m).length → numG f i n0 (nb m ++ r) = (n0 + m * 128 ^ i, i + (nb m).length, 0) := by
  intro m
  induction m using Nat.strongRecOn with
  | _ m ih =>
    intro f i n0 r hf hs
    have hm8 : (128 + m % 128) % 256 = 128 + m % 128 := by omega
    by_cases hm : m < 128
    · rw [nb_small hm] at hf hs ⊢
      simp only [List.length_cons, List.length_nil, List.singleton_append] at hf hs ⊢
      obtain ⟨f, rfl⟩ : ∃ g, f = g + 1 := ⟨f - 1, by omega⟩
      have e : (b8n m).toNat = m := by rw [b8n_toNat]; omega
      rw [numG, e, if_neg (by omega), Nat.mod_eq_of_lt hm, if_pos hs]
    · rw [nb_big (by omega)] at hf hs ⊢
      simp only [List.length_cons, List.cons_append] at hf hs ⊢
      obtain ⟨f, rfl⟩ : ∃ g, f = g + 1 := ⟨f - 1, by omega⟩
      have e : (b8n (128 + m % 128)).toNat = 128 + m % 128 := by rw [b8n_toNat]; omega
      have e2 : (128 + m % 128) % 128 = m % 128 := by omega
      have e3 : n0 + m % 128 * 128 ^ i + m / 128 * 128 ^ (i + 1) = n0 + m * 128 ^ i := by
        rw [Nat.pow_succ, Nat.mul_comm (128 ^ i) 128, ← Nat.mul_assoc, Nat.add_assoc, ← Nat.add_mul]
        congr 2; omega
      rw [numG, e, if_pos (by omega), e2, ih (m / 128) (by omega) f (i + 1) _ r (by omega) (by rw [e3, hs]; omega), e3]
      congr 2
      omega
theorem numB_of {n : Nat} (h : n ≤ 281474976710656) (r : List UInt8) : numB (nb n ++ r) = (n, (nb n).length, 0) := by
  have h7 := nb_seven h
  have := numG_of n 8 0 0 r (by omega) (by simp [szB, h])
  simpa [numB] using this
/-- A reader: its object. -/
def Rd (h : AHeap) (id : Nat) (l : List UInt8) (e : Nat) : Prop := ∃ t, h[id]? = some (.cells [.list (l.map b8) t, .int .i64 (e : Nat)])
theorem rof_ok (l : List UInt8) (t : Tok) (h : AHeap) : ACalls Try.prog 16 [.list (l.map b8) t] h fun r h' => r = .ptr h.length 0 ∧ ∃ t', h' = h ++ [.cells [.list (l.map b8) t', .int .i64 0]] := by
  refine acalls_of_awp Try.func16 rfl (by simp only [List.length_cons, List.length_nil]; decide) ?_
  simp only [params_cons, params_nil]
  repeat (first | (refine goes_done ?_; (try simp only [then_normal, then_exit, then_ret, block_normal, block_ret, block_exit, scope_normal, scope_ret, scope_exit, if_true, reduceIte, Nat.reduceEqDiff, reduceCtorEq])) | refine awp_seq ?_ | refine awp_region' (run_start (goes_eq (by simp (disch := (first | omega | (simp; done) | fail)) [if_pos, if_neg, wrap_i64, tmod_pos, tdiv_pos, Int.toNat_add]; rfl) ?_)) | refine awp_block ?_ | refine awp_scope ?_ | (refine awp_exit ?_; (try simp only [then_normal, then_exit, then_ret, block_normal, block_ret, block_exit, scope_normal, scope_ret, scope_exit, if_true, reduceIte, Nat.reduceEqDiff, reduceCtorEq])) | (refine awp_skip ?_; (try simp only [then_normal, then_exit, then_ret, block_normal, block_ret, block_exit, scope_normal, scope_ret, scope_exit, if_true, reduceIte, Nat.reduceEqDiff, reduceCtorEq])) | (refine awp_label ?_; (try simp only [then_normal, then_exit, then_ret, block_normal, block_ret, block_exit, scope_normal, scope_ret, scope_exit, if_true, reduceIte, Nat.reduceEqDiff, reduceCtorEq])) | (refine awp_ret ?_; (try simp only [then_normal, then_exit, then_ret, block_normal, block_ret, block_exit, scope_normal, scope_ret, scope_exit, if_true, reduceIte, Nat.reduceEqDiff, reduceCtorEq])) | refine awp_cond_t rfl ?_ | refine awp_cond_f rfl ?_)
  first | refine body_all (.inr rfl) (by simp; rfl) (by simp; rfl) (by first | (simp; done) | (simp; omega)) ?_ | refine body_all (.inl rfl) (by simp; rfl) (by simp; rfl) (by first | (simp; done) | (simp; omega)) ?_
  simp
theorem rleft_ok (h : AHeap) (id : Nat) (l : List UInt8) (e : Nat) (hr : Rd h id l e) : ACalls Try.prog 20 [.ptr id 0] h fun r h' => r = .int .i64 (l.length : Nat) ∧ h' = h := by
  obtain ⟨t, hr⟩ := hr
  refine acalls_of_awp Try.func20 rfl (by simp only [List.length_cons, List.length_nil]; decide) ?_
  simp only [params_cons, params_nil]
  repeat (first | (refine goes_done ?_; (try simp only [then_normal, then_exit, then_ret, block_normal, block_ret, block_exit, scope_normal, scope_ret, scope_exit, if_true, reduceIte, Nat.reduceEqDiff, reduceCtorEq])) | refine awp_seq ?_ | refine awp_region' (run_start (goes_eq (by simp (disch := (first | omega | (simp; done) | fail)) [if_pos, if_neg, wrap_i64, tmod_pos, tdiv_pos, Int.toNat_add, hr]; rfl) ?_)) | refine awp_block ?_ | refine awp_scope ?_ | (refine awp_exit ?_; (try simp only [then_normal, then_exit, then_ret, block_normal, block_ret, block_exit, scope_normal, scope_ret, scope_exit, if_true, reduceIte, Nat.reduceEqDiff, reduceCtorEq])) | (refine awp_skip ?_; (try simp only [then_normal, then_exit, then_ret, block_normal, block_ret, block_exit, scope_normal, scope_ret, scope_exit, if_true, reduceIte, Nat.reduceEqDiff, reduceCtorEq])) | (refine awp_label ?_; (try simp only [then_normal, then_exit, then_ret, block_normal, block_ret, block_exit, scope_normal, scope_ret, scope_exit, if_true, reduceIte, Nat.reduceEqDiff, reduceCtorEq])) | (refine awp_ret ?_; (try simp only [then_normal, then_exit, then_ret, block_normal, block_ret, block_exit, scope_normal, scope_ret, scope_exit, if_true, reduceIte, Nat.reduceEqDiff, reduceCtorEq])) | refine awp_cond_t rfl ?_ | refine awp_cond_f rfl ?_)
  first | refine body_pure0 (.inr rfl) (by simp; rfl) (by simp; rfl) (by simp) ?_ | refine body_pure0 (.inl rfl) (by simp; rfl) (by simp; rfl) (by simp) ?_
  simp
theorem rend_ok (h : AHeap) (id : Nat) (l : List UInt8) (e : Nat) (hr : Rd h id l e) : ACalls Try.prog 19 [.ptr id 0] h fun r h' => r = .int .i64 ((if e = 0 ∧ l ≠ [] then 11 else e : Nat) : Nat) ∧ h' = h := by
  obtain ⟨t, hr⟩ := hr
  refine acalls_of_awp Try.func19 rfl (by simp only [List.length_cons, List.length_nil]; decide) ?_
  simp only [params_cons, params_nil]
  by_cases h1 : e = 0
  · subst h1
    by_cases h2 : l = []
    · subst h2
      repeat (first | (refine goes_done ?_; (try simp only [then_normal, then_exit, then_ret, block_normal, block_ret, block_exit, scope_normal, scope_ret, scope_exit, if_true, reduceIte, Nat.reduceEqDiff, reduceCtorEq])) | refine awp_seq ?_ | refine awp_region' (run_start (goes_eq (by simp (disch := (first | omega | (simp; done) | fail)) [if_pos, if_neg, wrap_i64, tmod_pos, tdiv_pos, Int.toNat_add, hr]; rfl) ?_)) | refine awp_block ?_ | refine awp_scope ?_ | (refine awp_exit ?_; (try simp only [then_normal, then_exit, then_ret, block_normal, block_ret, block_exit, scope_normal, scope_ret, scope_exit, if_true, reduceIte, Nat.reduceEqDiff, reduceCtorEq])) | (refine awp_skip ?_; (try simp only [then_normal, then_exit, then_ret, block_normal, block_ret, block_exit, scope_normal, scope_ret, scope_exit, if_true, reduceIte, Nat.reduceEqDiff, reduceCtorEq])) | (refine awp_label ?_; (try simp only [then_normal, then_exit, then_ret, block_normal, block_ret, block_exit, scope_normal, scope_ret, scope_exit, if_true, reduceIte, Nat.reduceEqDiff, reduceCtorEq])) | (refine awp_ret ?_; (try simp only [then_normal, then_exit, then_ret, block_normal, block_ret, block_exit, scope_normal, scope_ret, scope_exit, if_true, reduceIte, Nat.reduceEqDiff, reduceCtorEq])) | refine awp_cond_t rfl ?_ | refine awp_cond_f rfl ?_)
      first | refine body_pure0 (.inr rfl) (by simp; rfl) (by simp; rfl) (by simp) ?_ | refine body_pure0 (.inl rfl) (by simp; rfl) (by simp; rfl) (by simp) ?_
      simp
    · have h3 : l.length ≠ 0 := by simpa using h2
      have h4 : 0 < l.length := by omega
      repeat (first | (refine goes_done ?_; (try simp only [then_normal, then_exit, then_ret, block_normal, block_ret, block_exit, scope_normal, scope_ret, scope_exit, if_true, reduceIte, Nat.reduceEqDiff, reduceCtorEq])) | refine awp_seq ?_ | refine awp_region' (run_start (goes_eq (by simp (disch := (first | omega | (simp; done) | fail)) [if_pos, if_neg, wrap_i64, tmod_pos, tdiv_pos, Int.toNat_add, hr, h4, h2]; rfl) ?_)) | refine awp_block ?_ | refine awp_scope ?_ | (refine awp_exit ?_; (try simp only [then_normal, then_exit, then_ret, block_normal, block_ret, block_exit, scope_normal, scope_ret, scope_exit, if_true, reduceIte, Nat.reduceEqDiff, reduceCtorEq])) | (refine awp_skip ?_; (try simp only [then_normal, then_exit, then_ret, block_normal, block_ret, block_exit, scope_normal, scope_ret, scope_exit, if_true, reduceIte, Nat.reduceEqDiff, reduceCtorEq])) | (refine awp_label ?_; (try simp only [then_normal, then_exit, then_ret, block_normal, block_ret, block_exit, scope_normal, scope_ret, scope_exit, if_true, reduceIte, Nat.reduceEqDiff, reduceCtorEq])) | (refine awp_ret ?_; (try simp only [then_normal, then_exit, then_ret, block_normal, block_ret, block_exit, scope_normal, scope_ret, scope_exit, if_true, reduceIte, Nat.reduceEqDiff, reduceCtorEq])) | refine awp_cond_t rfl ?_ | refine awp_cond_f rfl ?_)
      first | refine body_pure0 (.inr rfl) (by simp; rfl) (by simp; rfl) (by simp) ?_ | refine body_pure0 (.inl rfl) (by simp; rfl) (by simp; rfl) (by simp) ?_
      simp [h2]
  · have h3 : ((e : Int) == 0) = false := by simp; omega
    repeat (first | (refine goes_done ?_; (try simp only [then_normal, then_exit, then_ret, block_normal, block_ret, block_exit, scope_normal, scope_ret, scope_exit, if_true, reduceIte, Nat.reduceEqDiff, reduceCtorEq])) | refine awp_seq ?_ | refine awp_region' (run_start (goes_eq (by simp (disch := (first | omega | (simp; done) | fail)) [if_pos, if_neg, wrap_i64, tmod_pos, tdiv_pos, Int.toNat_add, hr, h3]; rfl) ?_)) | refine awp_block ?_ | refine awp_scope ?_ | (refine awp_exit ?_; (try simp only [then_normal, then_exit, then_ret, block_normal, block_ret, block_exit, scope_normal, scope_ret, scope_exit, if_true, reduceIte, Nat.reduceEqDiff, reduceCtorEq])) | (refine awp_skip ?_; (try simp only [then_normal, then_exit, then_ret, block_normal, block_ret, block_exit, scope_normal, scope_ret, scope_exit, if_true, reduceIte, Nat.reduceEqDiff, reduceCtorEq])) | (refine awp_label ?_; (try simp only [then_normal, then_exit, then_ret, block_normal, block_ret, block_exit, scope_normal, scope_ret, scope_exit, if_true, reduceIte, Nat.reduceEqDiff, reduceCtorEq])) | (refine awp_ret ?_; (try simp only [then_normal, then_exit, then_ret, block_normal, block_ret, block_exit, scope_normal, scope_ret, scope_exit, if_true, reduceIte, Nat.reduceEqDiff, reduceCtorEq])) | refine awp_cond_t rfl ?_ | refine awp_cond_f rfl ?_)
    first | refine body_pure0 (.inr rfl) (by simp; rfl) (by simp; rfl) (by simp) ?_ | refine body_pure0 (.inl rfl) (by simp; rfl) (by simp; rfl) (by simp) ?_
    simp [h1]
theorem set_get {h : AHeap} {id : Nat} {o : AObj} (hr : h[id]? = some o) (x : AObj) : (h.set id x)[id]? = some x := by
  have : id < h.length := by
    rcases Nat.lt_or_ge id h.length with h1 | h1
    · exact h1
    · rw [List.getElem?_eq_none h1] at hr; cases hr
  rw [List.getElem?_set_self this]
theorem drop_take_all {α : Type} (x y : List α) (n m : Nat) (hn : x.length = n) (hm : n + y.length = m) : List.drop n (List.take m (x ++ y)) = y := by
  rw [List.take_of_length_le (by simp; omega), List.drop_left' hn]
theorem rnum_read (h : AHeap) (id n : Nat) (l : List UInt8) (hn : n ≤ 281474976710656) (hl : (nb n ++ l).length ≤ 100000000) (hr : Rd h id (nb n ++ l) 0) :
    ACalls Try.prog 18 [.ptr id 0] h fun r h' => r = .int .i64 (n : Nat) ∧ ∃ t, h' = h.set id (.cells [.list (l.map b8) t, .int .i64 (0 : Nat)]) := by
  obtain ⟨t, hr⟩ := hr
  have hb := numB_of hn l
  refine acalls_of_awp Try.func18 rfl (by simp only [List.length_cons, List.length_nil]; decide) ?_
  simp only [params_cons, params_nil]
  repeat (first | (refine goes_done ?_; (try simp only [then_normal, then_exit, then_ret, block_normal, block_ret, block_exit, scope_normal, scope_ret, scope_exit, if_true, reduceIte, Nat.reduceEqDiff, reduceCtorEq])) | refine awp_seq ?_ | refine awp_region' (run_start (goes_eq (by simp (disch := (first | omega | (simp; done) | fail)) [if_pos, if_neg, wrap_i64, tmod_pos, tdiv_pos, Int.toNat_add, hr]; rfl) ?_)) | refine awp_block ?_ | refine awp_scope ?_ | (refine awp_exit ?_; (try simp only [then_normal, then_exit, then_ret, block_normal, block_ret, block_exit, scope_normal, scope_ret, scope_exit, if_true, reduceIte, Nat.reduceEqDiff, reduceCtorEq])) | (refine awp_skip ?_; (try simp only [then_normal, then_exit, then_ret, block_normal, block_ret, block_exit, scope_normal, scope_ret, scope_exit, if_true, reduceIte, Nat.reduceEqDiff, reduceCtorEq])) | (refine awp_label ?_; (try simp only [then_normal, then_exit, then_ret, block_normal, block_ret, block_exit, scope_normal, scope_ret, scope_exit, if_true, reduceIte, Nat.reduceEqDiff, reduceCtorEq])) | (refine awp_ret ?_; (try simp only [then_normal, then_exit, then_ret, block_normal, block_ret, block_exit, scope_normal, scope_ret, scope_exit, if_true, reduceIte, Nat.reduceEqDiff, reduceCtorEq])) | refine awp_cond_t rfl ?_ | refine awp_cond_f rfl ?_)
  refine goes_callS (callable_of Try.func22) (by simp (disch := (first | omega | (simp; done) | fail)) [if_pos, if_neg, wrap_i64, tmod_pos, tdiv_pos, Int.toNat_add] <;> first | rfl | omega) _ (number_ok _ _ hl _) ?_
  rintro _ h1 ⟨rfl, rfl⟩
  rw [hb]
  have hg := set_get hr
  have e := drop_take_all (List.map b8 (nb n)) (List.map b8 l) (nb n).length ((nb n).length + l.length) (by simp) (by simp)
  refine goes_eq (by simp (disch := (first | omega | (simp; done) | fail)) [if_pos, if_neg, wrap_i64, tmod_pos, tdiv_pos, Int.toNat_add, hr, hg]; rfl) ?_
  repeat (first | (refine goes_done ?_; (try simp only [then_normal, then_exit, then_ret, block_normal, block_ret, block_exit, scope_normal, scope_ret, scope_exit, if_true, reduceIte, Nat.reduceEqDiff, reduceCtorEq])) | refine awp_seq ?_ | refine awp_region' (run_start (goes_eq (by simp (disch := (first | omega | (simp; done) | fail)) [if_pos, if_neg, wrap_i64, tmod_pos, tdiv_pos, Int.toNat_add, hr, hg]; rfl) ?_)) | refine awp_block ?_ | refine awp_scope ?_ | (refine awp_exit ?_; (try simp only [then_normal, then_exit, then_ret, block_normal, block_ret, block_exit, scope_normal, scope_ret, scope_exit, if_true, reduceIte, Nat.reduceEqDiff, reduceCtorEq])) | (refine awp_skip ?_; (try simp only [then_normal, then_exit, then_ret, block_normal, block_ret, block_exit, scope_normal, scope_ret, scope_exit, if_true, reduceIte, Nat.reduceEqDiff, reduceCtorEq])) | (refine awp_label ?_; (try simp only [then_normal, then_exit, then_ret, block_normal, block_ret, block_exit, scope_normal, scope_ret, scope_exit, if_true, reduceIte, Nat.reduceEqDiff, reduceCtorEq])) | (refine awp_ret ?_; (try simp only [then_normal, then_exit, then_ret, block_normal, block_ret, block_exit, scope_normal, scope_ret, scope_exit, if_true, reduceIte, Nat.reduceEqDiff, reduceCtorEq])) | refine awp_cond_t rfl ?_ | refine awp_cond_f rfl ?_)
  first | refine body_all (.inr rfl) (by simp; rfl) (by simp; rfl) (by first | (simp; done) | (simp; omega)) ?_ | refine body_all (.inl rfl) (by simp; rfl) (by simp; rfl) (by first | (simp; done) | (simp; omega)) ?_
  rw [e]
  exact ⟨rfl, _, rfl⟩
theorem rnum_fail (h : AHeap) (id : Nat) (l : List UInt8) (he : (numB l).2.2 ≠ 0) (hl : l.length ≤ 100000000) (hr : Rd h id l 0) :
    ACalls Try.prog 18 [.ptr id 0] h fun r h' => r = .int .i64 0 ∧ ∃ t, h' = h.set id (.cells [.list (l.map b8) t, .int .i64 ((numB l).2.2 : Nat)]) := by
  obtain ⟨t, hr⟩ := hr
  refine acalls_of_awp Try.func18 rfl (by simp only [List.length_cons, List.length_nil]; decide) ?_
  simp only [params_cons, params_nil]
  repeat (first | (refine goes_done ?_; (try simp only [then_normal, then_exit, then_ret, block_normal, block_ret, block_exit, scope_normal, scope_ret, scope_exit, if_true, reduceIte, Nat.reduceEqDiff, reduceCtorEq])) | refine awp_seq ?_ | refine awp_region' (run_start (goes_eq (by simp (disch := (first | omega | (simp; done) | fail)) [if_pos, if_neg, wrap_i64, tmod_pos, tdiv_pos, Int.toNat_add, hr]; rfl) ?_)) | refine awp_block ?_ | refine awp_scope ?_ | (refine awp_exit ?_; (try simp only [then_normal, then_exit, then_ret, block_normal, block_ret, block_exit, scope_normal, scope_ret, scope_exit, if_true, reduceIte, Nat.reduceEqDiff, reduceCtorEq])) | (refine awp_skip ?_; (try simp only [then_normal, then_exit, then_ret, block_normal, block_ret, block_exit, scope_normal, scope_ret, scope_exit, if_true, reduceIte, Nat.reduceEqDiff, reduceCtorEq])) | (refine awp_label ?_; (try simp only [then_normal, then_exit, then_ret, block_normal, block_ret, block_exit, scope_normal, scope_ret, scope_exit, if_true, reduceIte, Nat.reduceEqDiff, reduceCtorEq])) | (refine awp_ret ?_; (try simp only [then_normal, then_exit, then_ret, block_normal, block_ret, block_exit, scope_normal, scope_ret, scope_exit, if_true, reduceIte, Nat.reduceEqDiff, reduceCtorEq])) | refine awp_cond_t rfl ?_ | refine awp_cond_f rfl ?_)
  refine goes_callS (callable_of Try.func22) (by simp (disch := (first | omega | (simp; done) | fail)) [if_pos, if_neg, wrap_i64, tmod_pos, tdiv_pos, Int.toNat_add] <;> first | rfl | omega) _ (number_ok _ _ hl _) ?_
  rintro _ _ ⟨rfl, rfl⟩
  generalize numB l = x at he
  obtain ⟨n, k, e⟩ := x
  simp only at he
  have he1 : ((e : Int) == 0) = false := by simp; omega
  have he2 : ((e : Int) != 0) = true := by simp; omega
  refine goes_eq (by simp (disch := (first | omega | (simp; done) | fail)) [if_pos, if_neg, wrap_i64, tmod_pos, tdiv_pos, Int.toNat_add, hr, he1, he2]; rfl) ?_
  repeat (first | (refine goes_done ?_; (try simp only [then_normal, then_exit, then_ret, block_normal, block_ret, block_exit, scope_normal, scope_ret, scope_exit, if_true, reduceIte, Nat.reduceEqDiff, reduceCtorEq])) | refine awp_seq ?_ | refine awp_region' (run_start (goes_eq (by simp (disch := (first | omega | (simp; done) | fail)) [if_pos, if_neg, wrap_i64, tmod_pos, tdiv_pos, Int.toNat_add, hr, he1, he2]; rfl) ?_)) | refine awp_block ?_ | refine awp_scope ?_ | (refine awp_exit ?_; (try simp only [then_normal, then_exit, then_ret, block_normal, block_ret, block_exit, scope_normal, scope_ret, scope_exit, if_true, reduceIte, Nat.reduceEqDiff, reduceCtorEq])) | (refine awp_skip ?_; (try simp only [then_normal, then_exit, then_ret, block_normal, block_ret, block_exit, scope_normal, scope_ret, scope_exit, if_true, reduceIte, Nat.reduceEqDiff, reduceCtorEq])) | (refine awp_label ?_; (try simp only [then_normal, then_exit, then_ret, block_normal, block_ret, block_exit, scope_normal, scope_ret, scope_exit, if_true, reduceIte, Nat.reduceEqDiff, reduceCtorEq])) | (refine awp_ret ?_; (try simp only [then_normal, then_exit, then_ret, block_normal, block_ret, block_exit, scope_normal, scope_ret, scope_exit, if_true, reduceIte, Nat.reduceEqDiff, reduceCtorEq])) | refine awp_cond_t rfl ?_ | refine awp_cond_f rfl ?_)
  first | refine body_all (.inr rfl) (by simp; rfl) (by simp; rfl) (by first | (simp; done) | (simp; omega)) ?_ | refine body_all (.inl rfl) (by simp; rfl) (by simp; rfl) (by first | (simp; done) | (simp; omega)) ?_
  exact ⟨rfl, _, rfl⟩
theorem rtext_read (h : AHeap) (id m : Nat) (s l : List UInt8) (hn : s.length ≤ m) (hm : m ≤ 100000000) (hl : (nb s.length ++ (s ++ l)).length ≤ 100000000) (hr : Rd h id (nb s.length ++ (s ++ l)) 0) :
    ACalls Try.prog 17 [.ptr id 0, .int .i64 (m : Nat)] h fun r h' => r = .str s ∧ ∃ t, h' = h.set id (.cells [.list (l.map b8) t, .int .i64 (0 : Nat)]) := by
  have hr0 := hr
  obtain ⟨t, hr⟩ := hr
  refine acalls_of_awp Try.func17 rfl (by simp only [List.length_cons, List.length_nil]; decide) ?_
  simp only [params_cons, params_nil]
  repeat (first | (refine goes_done ?_; (try simp only [then_normal, then_exit, then_ret, block_normal, block_ret, block_exit, scope_normal, scope_ret, scope_exit, if_true, reduceIte, Nat.reduceEqDiff, reduceCtorEq])) | refine awp_seq ?_ | refine awp_region' (run_start (goes_eq (by simp (disch := (first | omega | (simp; done) | fail)) [if_pos, if_neg, wrap_i64, tmod_pos, tdiv_pos, Int.toNat_add, hr]; rfl) ?_)) | refine awp_block ?_ | refine awp_scope ?_ | (refine awp_exit ?_; (try simp only [then_normal, then_exit, then_ret, block_normal, block_ret, block_exit, scope_normal, scope_ret, scope_exit, if_true, reduceIte, Nat.reduceEqDiff, reduceCtorEq])) | (refine awp_skip ?_; (try simp only [then_normal, then_exit, then_ret, block_normal, block_ret, block_exit, scope_normal, scope_ret, scope_exit, if_true, reduceIte, Nat.reduceEqDiff, reduceCtorEq])) | (refine awp_label ?_; (try simp only [then_normal, then_exit, then_ret, block_normal, block_ret, block_exit, scope_normal, scope_ret, scope_exit, if_true, reduceIte, Nat.reduceEqDiff, reduceCtorEq])) | (refine awp_ret ?_; (try simp only [then_normal, then_exit, then_ret, block_normal, block_ret, block_exit, scope_normal, scope_ret, scope_exit, if_true, reduceIte, Nat.reduceEqDiff, reduceCtorEq])) | refine awp_cond_t rfl ?_ | refine awp_cond_f rfl ?_)
  refine goes_callS (callable_of Try.func18) (by simp (disch := (first | omega | (simp; done) | fail)) [if_pos, if_neg, wrap_i64, tmod_pos, tdiv_pos, Int.toNat_add] <;> first | rfl | omega) _ (rnum_read _ _ _ _ (by omega) hl hr0) ?_
  rintro _ _ ⟨rfl, t2, rfl⟩
  have hg := set_get hr
  refine goes_eq (by simp (disch := (first | omega | (simp; done) | fail)) [if_pos, if_neg, wrap_i64, tmod_pos, tdiv_pos, Int.toNat_add, hg]; rfl) ?_
  repeat (first | (refine goes_done ?_; (try simp only [then_normal, then_exit, then_ret, block_normal, block_ret, block_exit, scope_normal, scope_ret, scope_exit, if_true, reduceIte, Nat.reduceEqDiff, reduceCtorEq])) | refine awp_seq ?_ | refine awp_region' (run_start (goes_eq (by simp (disch := (first | omega | (simp; done) | fail)) [if_pos, if_neg, wrap_i64, tmod_pos, tdiv_pos, Int.toNat_add, hg]; rfl) ?_)) | refine awp_block ?_ | refine awp_scope ?_ | (refine awp_exit ?_; (try simp only [then_normal, then_exit, then_ret, block_normal, block_ret, block_exit, scope_normal, scope_ret, scope_exit, if_true, reduceIte, Nat.reduceEqDiff, reduceCtorEq])) | (refine awp_skip ?_; (try simp only [then_normal, then_exit, then_ret, block_normal, block_ret, block_exit, scope_normal, scope_ret, scope_exit, if_true, reduceIte, Nat.reduceEqDiff, reduceCtorEq])) | (refine awp_label ?_; (try simp only [then_normal, then_exit, then_ret, block_normal, block_ret, block_exit, scope_normal, scope_ret, scope_exit, if_true, reduceIte, Nat.reduceEqDiff, reduceCtorEq])) | (refine awp_ret ?_; (try simp only [then_normal, then_exit, then_ret, block_normal, block_ret, block_exit, scope_normal, scope_ret, scope_exit, if_true, reduceIte, Nat.reduceEqDiff, reduceCtorEq])) | refine awp_cond_t rfl ?_ | refine awp_cond_f rfl ?_)
  have e := drop_take_all (List.map b8 s) (List.map b8 l) s.length (s.length + l.length) (by simp) (by simp)
  refine awp_cond rfl (fun hq => by exfalso; simp at hq; omega) (fun _ => ?_)
  repeat (first | (refine goes_done ?_; (try simp only [then_normal, then_exit, then_ret, block_normal, block_ret, block_exit, scope_normal, scope_ret, scope_exit, if_true, reduceIte, Nat.reduceEqDiff, reduceCtorEq])) | refine awp_seq ?_ | refine awp_region' (run_start (goes_eq (by simp (disch := (first | omega | (simp; done) | fail)) [if_pos, if_neg, wrap_i64, tmod_pos, tdiv_pos, Int.toNat_add, hg]; rfl) ?_)) | refine awp_block ?_ | refine awp_scope ?_ | (refine awp_exit ?_; (try simp only [then_normal, then_exit, then_ret, block_normal, block_ret, block_exit, scope_normal, scope_ret, scope_exit, if_true, reduceIte, Nat.reduceEqDiff, reduceCtorEq])) | (refine awp_skip ?_; (try simp only [then_normal, then_exit, then_ret, block_normal, block_ret, block_exit, scope_normal, scope_ret, scope_exit, if_true, reduceIte, Nat.reduceEqDiff, reduceCtorEq])) | (refine awp_label ?_; (try simp only [then_normal, then_exit, then_ret, block_normal, block_ret, block_exit, scope_normal, scope_ret, scope_exit, if_true, reduceIte, Nat.reduceEqDiff, reduceCtorEq])) | (refine awp_ret ?_; (try simp only [then_normal, then_exit, then_ret, block_normal, block_ret, block_exit, scope_normal, scope_ret, scope_exit, if_true, reduceIte, Nat.reduceEqDiff, reduceCtorEq])) | refine awp_cond_t rfl ?_ | refine awp_cond_f rfl ?_)
  refine awp_cond rfl (fun hq => by exfalso; simp at hq; omega) (fun _ => ?_)
  repeat (first | (refine goes_done ?_; (try simp only [then_normal, then_exit, then_ret, block_normal, block_ret, block_exit, scope_normal, scope_ret, scope_exit, if_true, reduceIte, Nat.reduceEqDiff, reduceCtorEq])) | refine awp_seq ?_ | refine awp_region' (run_start (goes_eq (by simp (disch := (first | omega | (simp; done) | fail)) [if_pos, if_neg, wrap_i64, tmod_pos, tdiv_pos, Int.toNat_add, hg]; rfl) ?_)) | refine awp_block ?_ | refine awp_scope ?_ | (refine awp_exit ?_; (try simp only [then_normal, then_exit, then_ret, block_normal, block_ret, block_exit, scope_normal, scope_ret, scope_exit, if_true, reduceIte, Nat.reduceEqDiff, reduceCtorEq])) | (refine awp_skip ?_; (try simp only [then_normal, then_exit, then_ret, block_normal, block_ret, block_exit, scope_normal, scope_ret, scope_exit, if_true, reduceIte, Nat.reduceEqDiff, reduceCtorEq])) | (refine awp_label ?_; (try simp only [then_normal, then_exit, then_ret, block_normal, block_ret, block_exit, scope_normal, scope_ret, scope_exit, if_true, reduceIte, Nat.reduceEqDiff, reduceCtorEq])) | (refine awp_ret ?_; (try simp only [then_normal, then_exit, then_ret, block_normal, block_ret, block_exit, scope_normal, scope_ret, scope_exit, if_true, reduceIte, Nat.reduceEqDiff, reduceCtorEq])) | refine awp_cond_t rfl ?_ | refine awp_cond_f rfl ?_)
  first | refine body_all (.inr rfl) (by simp; rfl) (by simp; rfl) (by first | (simp; done) | (simp; omega)) ?_ | refine body_all (.inl rfl) (by simp; rfl) (by simp; rfl) (by first | (simp; done) | (simp; omega)) ?_
  rw [e]
  exact ⟨rfl, _, rfl⟩
theorem rtext_fail (h : AHeap) (id m : Nat) (l : List UInt8) (he : (numB l).2.2 ≠ 0) (hl : l.length ≤ 100000000) (hr : Rd h id l 0) :
    ACalls Try.prog 17 [.ptr id 0, .int .i64 (m : Nat)] h fun r h' => r = .str [] ∧ ∃ t, h' = h.set id (.cells [.list (l.map b8) t, .int .i64 ((numB l).2.2 : Nat)]) := by
  have hr0 := hr
  obtain ⟨t, hr⟩ := hr
  refine acalls_of_awp Try.func17 rfl (by simp only [List.length_cons, List.length_nil]; decide) ?_
  simp only [params_cons, params_nil]
  repeat (first | (refine goes_done ?_; (try simp only [then_normal, then_exit, then_ret, block_normal, block_ret, block_exit, scope_normal, scope_ret, scope_exit, if_true, reduceIte, Nat.reduceEqDiff, reduceCtorEq])) | refine awp_seq ?_ | refine awp_region' (run_start (goes_eq (by simp (disch := (first | omega | (simp; done) | fail)) [if_pos, if_neg, wrap_i64, tmod_pos, tdiv_pos, Int.toNat_add, hr]; rfl) ?_)) | refine awp_block ?_ | refine awp_scope ?_ | (refine awp_exit ?_; (try simp only [then_normal, then_exit, then_ret, block_normal, block_ret, block_exit, scope_normal, scope_ret, scope_exit, if_true, reduceIte, Nat.reduceEqDiff, reduceCtorEq])) | (refine awp_skip ?_; (try simp only [then_normal, then_exit, then_ret, block_normal, block_ret, block_exit, scope_normal, scope_ret, scope_exit, if_true, reduceIte, Nat.reduceEqDiff, reduceCtorEq])) | (refine awp_label ?_; (try simp only [then_normal, then_exit, then_ret, block_normal, block_ret, block_exit, scope_normal, scope_ret, scope_exit, if_true, reduceIte, Nat.reduceEqDiff, reduceCtorEq])) | (refine awp_ret ?_; (try simp only [then_normal, then_exit, then_ret, block_normal, block_ret, block_exit, scope_normal, scope_ret, scope_exit, if_true, reduceIte, Nat.reduceEqDiff, reduceCtorEq])) | refine awp_cond_t rfl ?_ | refine awp_cond_f rfl ?_)
  refine goes_callS (callable_of Try.func18) (by simp (disch := (first | omega | (simp; done) | fail)) [if_pos, if_neg, wrap_i64, tmod_pos, tdiv_pos, Int.toNat_add] <;> first | rfl | omega) _ (rnum_fail _ _ _ he hl hr0) ?_
  rintro _ _ ⟨rfl, t2, rfl⟩
  have hg := set_get hr
  have he2 : (((numB l).2.2 : Int) != 0) = true := by simp; omega
  refine goes_eq (by simp (disch := (first | omega | (simp; done) | fail)) [if_pos, if_neg, wrap_i64, tmod_pos, tdiv_pos, Int.toNat_add, hg, he2]; rfl) ?_
  repeat (first | (refine goes_done ?_; (try simp only [then_normal, then_exit, then_ret, block_normal, block_ret, block_exit, scope_normal, scope_ret, scope_exit, if_true, reduceIte, Nat.reduceEqDiff, reduceCtorEq])) | refine awp_seq ?_ | refine awp_region' (run_start (goes_eq (by simp (disch := (first | omega | (simp; done) | fail)) [if_pos, if_neg, wrap_i64, tmod_pos, tdiv_pos, Int.toNat_add, hg, he2]; rfl) ?_)) | refine awp_block ?_ | refine awp_scope ?_ | (refine awp_exit ?_; (try simp only [then_normal, then_exit, then_ret, block_normal, block_ret, block_exit, scope_normal, scope_ret, scope_exit, if_true, reduceIte, Nat.reduceEqDiff, reduceCtorEq])) | (refine awp_skip ?_; (try simp only [then_normal, then_exit, then_ret, block_normal, block_ret, block_exit, scope_normal, scope_ret, scope_exit, if_true, reduceIte, Nat.reduceEqDiff, reduceCtorEq])) | (refine awp_label ?_; (try simp only [then_normal, then_exit, then_ret, block_normal, block_ret, block_exit, scope_normal, scope_ret, scope_exit, if_true, reduceIte, Nat.reduceEqDiff, reduceCtorEq])) | (refine awp_ret ?_; (try simp only [then_normal, then_exit, then_ret, block_normal, block_ret, block_exit, scope_normal, scope_ret, scope_exit, if_true, reduceIte, Nat.reduceEqDiff, reduceCtorEq])) | refine awp_cond_t rfl ?_ | refine awp_cond_f rfl ?_)
  first | refine body_all (.inr rfl) (by simp; rfl) (by simp; rfl) (by first | (simp; done) | (simp; omega)) ?_ | refine body_all (.inl rfl) (by simp; rfl) (by simp; rfl) (by first | (simp; done) | (simp; omega)) ?_
  exact ⟨rfl, _, rfl⟩
theorem rtext_long (h : AHeap) (id m n : Nat) (l : List UInt8) (hn : n ≤ 281474976710656) (hm : m < n) (hl : (nb n ++ l).length ≤ 100000000) (hr : Rd h id (nb n ++ l) 0) :
    ACalls Try.prog 17 [.ptr id 0, .int .i64 (m : Nat)] h fun r h' => r = .str [] ∧ ∃ t, h' = h.set id (.cells [.list ((nb n ++ l).map b8) t, .int .i64 (13 : Nat)]) := by
  have hr0 := hr
  obtain ⟨t, hr⟩ := hr
  refine acalls_of_awp Try.func17 rfl (by simp only [List.length_cons, List.length_nil]; decide) ?_
  simp only [params_cons, params_nil]
  repeat (first | (refine goes_done ?_; (try simp only [then_normal, then_exit, then_ret, block_normal, block_ret, block_exit, scope_normal, scope_ret, scope_exit, if_true, reduceIte, Nat.reduceEqDiff, reduceCtorEq])) | refine awp_seq ?_ | refine awp_region' (run_start (goes_eq (by simp (disch := (first | omega | (simp; done) | fail)) [if_pos, if_neg, wrap_i64, tmod_pos, tdiv_pos, Int.toNat_add, hr]; rfl) ?_)) | refine awp_block ?_ | refine awp_scope ?_ | (refine awp_exit ?_; (try simp only [then_normal, then_exit, then_ret, block_normal, block_ret, block_exit, scope_normal, scope_ret, scope_exit, if_true, reduceIte, Nat.reduceEqDiff, reduceCtorEq])) | (refine awp_skip ?_; (try simp only [then_normal, then_exit, then_ret, block_normal, block_ret, block_exit, scope_normal, scope_ret, scope_exit, if_true, reduceIte, Nat.reduceEqDiff, reduceCtorEq])) | (refine awp_label ?_; (try simp only [then_normal, then_exit, then_ret, block_normal, block_ret, block_exit, scope_normal, scope_ret, scope_exit, if_true, reduceIte, Nat.reduceEqDiff, reduceCtorEq])) | (refine awp_ret ?_; (try simp only [then_normal, then_exit, then_ret, block_normal, block_ret, block_exit, scope_normal, scope_ret, scope_exit, if_true, reduceIte, Nat.reduceEqDiff, reduceCtorEq])) | refine awp_cond_t rfl ?_ | refine awp_cond_f rfl ?_)
  refine goes_callS (callable_of Try.func18) (by simp (disch := (first | omega | (simp; done) | fail)) [if_pos, if_neg, wrap_i64, tmod_pos, tdiv_pos, Int.toNat_add] <;> first | rfl | omega) _ (rnum_read _ _ _ _ hn hl hr0) ?_
  rintro _ _ ⟨rfl, t2, rfl⟩
  have hg := set_get hr
  refine goes_eq (by simp (disch := (first | omega | (simp; done) | fail)) [if_pos, if_neg, wrap_i64, tmod_pos, tdiv_pos, Int.toNat_add, hg]; rfl) ?_
  repeat (first | (refine goes_done ?_; (try simp only [then_normal, then_exit, then_ret, block_normal, block_ret, block_exit, scope_normal, scope_ret, scope_exit, if_true, reduceIte, Nat.reduceEqDiff, reduceCtorEq])) | refine awp_seq ?_ | refine awp_region' (run_start (goes_eq (by simp (disch := (first | omega | (simp; done) | fail)) [if_pos, if_neg, wrap_i64, tmod_pos, tdiv_pos, Int.toNat_add, hg]; rfl) ?_)) | refine awp_block ?_ | refine awp_scope ?_ | (refine awp_exit ?_; (try simp only [then_normal, then_exit, then_ret, block_normal, block_ret, block_exit, scope_normal, scope_ret, scope_exit, if_true, reduceIte, Nat.reduceEqDiff, reduceCtorEq])) | (refine awp_skip ?_; (try simp only [then_normal, then_exit, then_ret, block_normal, block_ret, block_exit, scope_normal, scope_ret, scope_exit, if_true, reduceIte, Nat.reduceEqDiff, reduceCtorEq])) | (refine awp_label ?_; (try simp only [then_normal, then_exit, then_ret, block_normal, block_ret, block_exit, scope_normal, scope_ret, scope_exit, if_true, reduceIte, Nat.reduceEqDiff, reduceCtorEq])) | (refine awp_ret ?_; (try simp only [then_normal, then_exit, then_ret, block_normal, block_ret, block_exit, scope_normal, scope_ret, scope_exit, if_true, reduceIte, Nat.reduceEqDiff, reduceCtorEq])) | refine awp_cond_t rfl ?_ | refine awp_cond_f rfl ?_)
  refine awp_cond rfl (fun _ => ?_) (fun hq => by exfalso; simp at hq; omega)
  repeat (first | (refine goes_done ?_; (try simp only [then_normal, then_exit, then_ret, block_normal, block_ret, block_exit, scope_normal, scope_ret, scope_exit, if_true, reduceIte, Nat.reduceEqDiff, reduceCtorEq])) | refine awp_seq ?_ | refine awp_region' (run_start (goes_eq (by simp (disch := (first | omega | (simp; done) | fail)) [if_pos, if_neg, wrap_i64, tmod_pos, tdiv_pos, Int.toNat_add, hg]; rfl) ?_)) | refine awp_block ?_ | refine awp_scope ?_ | (refine awp_exit ?_; (try simp only [then_normal, then_exit, then_ret, block_normal, block_ret, block_exit, scope_normal, scope_ret, scope_exit, if_true, reduceIte, Nat.reduceEqDiff, reduceCtorEq])) | (refine awp_skip ?_; (try simp only [then_normal, then_exit, then_ret, block_normal, block_ret, block_exit, scope_normal, scope_ret, scope_exit, if_true, reduceIte, Nat.reduceEqDiff, reduceCtorEq])) | (refine awp_label ?_; (try simp only [then_normal, then_exit, then_ret, block_normal, block_ret, block_exit, scope_normal, scope_ret, scope_exit, if_true, reduceIte, Nat.reduceEqDiff, reduceCtorEq])) | (refine awp_ret ?_; (try simp only [then_normal, then_exit, then_ret, block_normal, block_ret, block_exit, scope_normal, scope_ret, scope_exit, if_true, reduceIte, Nat.reduceEqDiff, reduceCtorEq])) | refine awp_cond_t rfl ?_ | refine awp_cond_f rfl ?_)
  first | refine body_all (.inr rfl) (by simp; rfl) (by simp; rfl) (by first | (simp; done) | (simp; omega)) ?_ | refine body_all (.inl rfl) (by simp; rfl) (by simp; rfl) (by first | (simp; done) | (simp; omega)) ?_
  simp only [List.map_append, List.set_set]
  exact ⟨trivial, _, rfl⟩
theorem rtext_short (h : AHeap) (id m n : Nat) (l : List UInt8) (hn : n ≤ 281474976710656) (hm : n ≤ m) (hm2 : l.length < n) (hl : (nb n ++ l).length ≤ 100000000) (hr : Rd h id (nb n ++ l) 0) :
    ACalls Try.prog 17 [.ptr id 0, .int .i64 (m : Nat)] h fun r h' => r = .str [] ∧ ∃ t, h' = h.set id (.cells [.list ((nb n ++ l).map b8) t, .int .i64 (10 : Nat)]) := by
  have hr0 := hr
  obtain ⟨t, hr⟩ := hr
  refine acalls_of_awp Try.func17 rfl (by simp only [List.length_cons, List.length_nil]; decide) ?_
  simp only [params_cons, params_nil]
  repeat (first | (refine goes_done ?_; (try simp only [then_normal, then_exit, then_ret, block_normal, block_ret, block_exit, scope_normal, scope_ret, scope_exit, if_true, reduceIte, Nat.reduceEqDiff, reduceCtorEq])) | refine awp_seq ?_ | refine awp_region' (run_start (goes_eq (by simp (disch := (first | omega | (simp; done) | fail)) [if_pos, if_neg, wrap_i64, tmod_pos, tdiv_pos, Int.toNat_add, hr]; rfl) ?_)) | refine awp_block ?_ | refine awp_scope ?_ | (refine awp_exit ?_; (try simp only [then_normal, then_exit, then_ret, block_normal, block_ret, block_exit, scope_normal, scope_ret, scope_exit, if_true, reduceIte, Nat.reduceEqDiff, reduceCtorEq])) | (refine awp_skip ?_; (try simp only [then_normal, then_exit, then_ret, block_normal, block_ret, block_exit, scope_normal, scope_ret, scope_exit, if_true, reduceIte, Nat.reduceEqDiff, reduceCtorEq])) | (refine awp_label ?_; (try simp only [then_normal, then_exit, then_ret, block_normal, block_ret, block_exit, scope_normal, scope_ret, scope_exit, if_true, reduceIte, Nat.reduceEqDiff, reduceCtorEq])) | (refine awp_ret ?_; (try simp only [then_normal, then_exit, then_ret, block_normal, block_ret, block_exit, scope_normal, scope_ret, scope_exit, if_true, reduceIte, Nat.reduceEqDiff, reduceCtorEq])) | refine awp_cond_t rfl ?_ | refine awp_cond_f rfl ?_)
  refine goes_callS (callable_of Try.func18) (by simp (disch := (first | omega | (simp; done) | fail)) [if_pos, if_neg, wrap_i64, tmod_pos, tdiv_pos, Int.toNat_add] <;> first | rfl | omega) _ (rnum_read _ _ _ _ hn hl hr0) ?_
  rintro _ _ ⟨rfl, t2, rfl⟩
  have hg := set_get hr
  refine goes_eq (by simp (disch := (first | omega | (simp; done) | fail)) [if_pos, if_neg, wrap_i64, tmod_pos, tdiv_pos, Int.toNat_add, hg]; rfl) ?_
  repeat (first | (refine goes_done ?_; (try simp only [then_normal, then_exit, then_ret, block_normal, block_ret, block_exit, scope_normal, scope_ret, scope_exit, if_true, reduceIte, Nat.reduceEqDiff, reduceCtorEq])) | refine awp_seq ?_ | refine awp_region' (run_start (goes_eq (by simp (disch := (first | omega | (simp; done) | fail)) [if_pos, if_neg, wrap_i64, tmod_pos, tdiv_pos, Int.toNat_add, hg]; rfl) ?_)) | refine awp_block ?_ | refine awp_scope ?_ | (refine awp_exit ?_; (try simp only [then_normal, then_exit, then_ret, block_normal, block_ret, block_exit, scope_normal, scope_ret, scope_exit, if_true, reduceIte, Nat.reduceEqDiff, reduceCtorEq])) | (refine awp_skip ?_; (try simp only [then_normal, then_exit, then_ret, block_normal, block_ret, block_exit, scope_normal, scope_ret, scope_exit, if_true, reduceIte, Nat.reduceEqDiff, reduceCtorEq])) | (refine awp_label ?_; (try simp only [then_normal, then_exit, then_ret, block_normal, block_ret, block_exit, scope_normal, scope_ret, scope_exit, if_true, reduceIte, Nat.reduceEqDiff, reduceCtorEq])) | (refine awp_ret ?_; (try simp only [then_normal, then_exit, then_ret, block_normal, block_ret, block_exit, scope_normal, scope_ret, scope_exit, if_true, reduceIte, Nat.reduceEqDiff, reduceCtorEq])) | refine awp_cond_t rfl ?_ | refine awp_cond_f rfl ?_)
  refine awp_cond rfl (fun hq => by exfalso; simp at hq; omega) (fun _ => ?_)
  repeat (first | (refine goes_done ?_; (try simp only [then_normal, then_exit, then_ret, block_normal, block_ret, block_exit, scope_normal, scope_ret, scope_exit, if_true, reduceIte, Nat.reduceEqDiff, reduceCtorEq])) | refine awp_seq ?_ | refine awp_region' (run_start (goes_eq (by simp (disch := (first | omega | (simp; done) | fail)) [if_pos, if_neg, wrap_i64, tmod_pos, tdiv_pos, Int.toNat_add, hg]; rfl) ?_)) | refine awp_block ?_ | refine awp_scope ?_ | (refine awp_exit ?_; (try simp only [then_normal, then_exit, then_ret, block_normal, block_ret, block_exit, scope_normal, scope_ret, scope_exit, if_true, reduceIte, Nat.reduceEqDiff, reduceCtorEq])) | (refine awp_skip ?_; (try simp only [then_normal, then_exit, then_ret, block_normal, block_ret, block_exit, scope_normal, scope_ret, scope_exit, if_true, reduceIte, Nat.reduceEqDiff, reduceCtorEq])) | (refine awp_label ?_; (try simp only [then_normal, then_exit, then_ret, block_normal, block_ret, block_exit, scope_normal, scope_ret, scope_exit, if_true, reduceIte, Nat.reduceEqDiff, reduceCtorEq])) | (refine awp_ret ?_; (try simp only [then_normal, then_exit, then_ret, block_normal, block_ret, block_exit, scope_normal, scope_ret, scope_exit, if_true, reduceIte, Nat.reduceEqDiff, reduceCtorEq])) | refine awp_cond_t rfl ?_ | refine awp_cond_f rfl ?_)
  refine awp_cond rfl (fun _ => ?_) (fun hq => by exfalso; simp at hq; omega)
  repeat (first | (refine goes_done ?_; (try simp only [then_normal, then_exit, then_ret, block_normal, block_ret, block_exit, scope_normal, scope_ret, scope_exit, if_true, reduceIte, Nat.reduceEqDiff, reduceCtorEq])) | refine awp_seq ?_ | refine awp_region' (run_start (goes_eq (by simp (disch := (first | omega | (simp; done) | fail)) [if_pos, if_neg, wrap_i64, tmod_pos, tdiv_pos, Int.toNat_add, hg]; rfl) ?_)) | refine awp_block ?_ | refine awp_scope ?_ | (refine awp_exit ?_; (try simp only [then_normal, then_exit, then_ret, block_normal, block_ret, block_exit, scope_normal, scope_ret, scope_exit, if_true, reduceIte, Nat.reduceEqDiff, reduceCtorEq])) | (refine awp_skip ?_; (try simp only [then_normal, then_exit, then_ret, block_normal, block_ret, block_exit, scope_normal, scope_ret, scope_exit, if_true, reduceIte, Nat.reduceEqDiff, reduceCtorEq])) | (refine awp_label ?_; (try simp only [then_normal, then_exit, then_ret, block_normal, block_ret, block_exit, scope_normal, scope_ret, scope_exit, if_true, reduceIte, Nat.reduceEqDiff, reduceCtorEq])) | (refine awp_ret ?_; (try simp only [then_normal, then_exit, then_ret, block_normal, block_ret, block_exit, scope_normal, scope_ret, scope_exit, if_true, reduceIte, Nat.reduceEqDiff, reduceCtorEq])) | refine awp_cond_t rfl ?_ | refine awp_cond_f rfl ?_)
  first | refine body_all (.inr rfl) (by simp; rfl) (by simp; rfl) (by first | (simp; done) | (simp; omega)) ?_ | refine body_all (.inl rfl) (by simp; rfl) (by simp; rfl) (by first | (simp; done) | (simp; omega)) ?_
  simp only [List.map_append, List.set_set]
  exact ⟨trivial, _, rfl⟩
end Go.Proofs.Ytfcfkbaikkkibaa.N
