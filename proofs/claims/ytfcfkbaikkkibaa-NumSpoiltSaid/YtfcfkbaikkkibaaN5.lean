/- Numbers as bytes: the writer writes. -/
import Derived.Test.YtfcfkbaikkkibaaN4
set_option linter.unusedVariables false
set_option linter.unusedSimpArgs false
set_option maxRecDepth 20000
namespace Go.Proofs.Ytfcfkbaikkkibaa.N
open Go Go.Proofs.Ytfcfkbaikkkibaa.V
theorem nb_pow : ∀ (k n : Nat), n < 128 ^ (k + 1) → (nb n).length ≤ k + 1
  | 0, n, h => by rw [nb_small (by simpa using h)]; simp
  | k + 1, n, h => by
    by_cases h1 : n < 128
    · rw [nb_small h1]; simp
    · rw [nb_big (by omega)]
      have := nb_pow k (n / 128) (by rw [Nat.pow_succ] at h; omega)
      simpa using this
theorem nb_seven {n : Nat} (h : n ≤ 281474976710656) : (nb n).length ≤ 7 := nb_pow 6 n (by omega)
theorem or128_all : ∀ x : Fin 256, bits .or .u8 ((x.val : Nat) : Int) 128 = 128 + ((x.val : Nat) : Int) % 128 := by decide +kernel
theorem or128 (n : Nat) : bits .or .u8 ((n : Int) % 256) 128 = 128 + (n : Int) % 128 := by
  have h := or128_all ⟨n % 256, by omega⟩
  simp only [Int.natCast_emod, Int.cast_ofNat_Int] at h
  rw [h]
  omega
theorem b8_more (n : Nat) : AV.int .u8 (128 + (n : Int) % 128) = b8 (b8n (128 + n % 128)) := by
  have h : (128 + n % 128) % 256 = 128 + n % 128 := by omega
  simp [b8, b8n_toNat, h]
theorem b8_last (n : Nat) (h : n < 128) : AV.int .u8 ((n : Int) % 256) = b8 (b8n n) := by
  simp [b8, b8n_toNat]
theorem wnum_ok (n : Nat) (hn : n ≤ 281474976710656) (h : AHeap) (F : Nat → Prop) (id : Nat) (l : List UInt8) (sp : Bool) (hw : Wr h F id l sp) (hl : l.length ≤ 100000000) :
    ACalls Try.prog 12 [.ptr id 0, .int .i64 (n : Nat)] h fun r h' => r = .ptr id 0 ∧ ∃ F', Wr h' F' id (l ++ nb n) sp ∧ Kept h F h' F' := by
  have hc : canB (n : Int) = true := by simp [canB]; omega
  refine acalls_of_awp Try.func12 rfl (by simp only [List.length_cons, List.length_nil]; decide) ?_
  simp only [params_cons, params_nil]
  repeat (first | (refine goes_done ?_; (try simp only [then_normal, then_exit, then_ret, block_normal, block_ret, block_exit, scope_normal, scope_ret, scope_exit, if_true, reduceIte, Nat.reduceEqDiff, reduceCtorEq])) | refine awp_seq ?_ | refine awp_region' (run_start (goes_eq (by simp (disch := (first | omega | (simp; done) | fail)) [if_pos, if_neg, wrap_i64, tmod_pos, tdiv_pos, Int.toNat_add]; rfl) ?_)) | refine awp_block ?_ | refine awp_scope ?_ | (refine awp_exit ?_; (try simp only [then_normal, then_exit, then_ret, block_normal, block_ret, block_exit, scope_normal, scope_ret, scope_exit, if_true, reduceIte, Nat.reduceEqDiff, reduceCtorEq])) | (refine awp_skip ?_; (try simp only [then_normal, then_exit, then_ret, block_normal, block_ret, block_exit, scope_normal, scope_ret, scope_exit, if_true, reduceIte, Nat.reduceEqDiff, reduceCtorEq])) | (refine awp_label ?_; (try simp only [then_normal, then_exit, then_ret, block_normal, block_ret, block_exit, scope_normal, scope_ret, scope_exit, if_true, reduceIte, Nat.reduceEqDiff, reduceCtorEq])) | (refine awp_ret ?_; (try simp only [then_normal, then_exit, then_ret, block_normal, block_ret, block_exit, scope_normal, scope_ret, scope_exit, if_true, reduceIte, Nat.reduceEqDiff, reduceCtorEq])) | refine awp_cond_t rfl ?_ | refine awp_cond_f rfl ?_)
  refine goes_callS (callable_of Try.func21) (by simp (disch := (first | omega | (simp; done) | fail)) [if_pos, if_neg, wrap_i64, tmod_pos, tdiv_pos, Int.toNat_add] <;> first | rfl | omega) _ (right_ok n _) ?_
  rintro _ h0 ⟨rfl, rfl⟩
  rw [hc]
  refine goes_eq (by simp (disch := (first | omega | (simp; done) | fail)) [if_pos, if_neg, wrap_i64, tmod_pos, tdiv_pos, Int.toNat_add]; rfl) ?_
  repeat (first | (refine goes_done ?_; (try simp only [then_normal, then_exit, then_ret, block_normal, block_ret, block_exit, scope_normal, scope_ret, scope_exit, if_true, reduceIte, Nat.reduceEqDiff, reduceCtorEq])) | refine awp_seq ?_ | refine awp_region' (run_start (goes_eq (by simp (disch := (first | omega | (simp; done) | fail)) [if_pos, if_neg, wrap_i64, tmod_pos, tdiv_pos, Int.toNat_add]; rfl) ?_)) | refine awp_block ?_ | refine awp_scope ?_ | (refine awp_exit ?_; (try simp only [then_normal, then_exit, then_ret, block_normal, block_ret, block_exit, scope_normal, scope_ret, scope_exit, if_true, reduceIte, Nat.reduceEqDiff, reduceCtorEq])) | (refine awp_skip ?_; (try simp only [then_normal, then_exit, then_ret, block_normal, block_ret, block_exit, scope_normal, scope_ret, scope_exit, if_true, reduceIte, Nat.reduceEqDiff, reduceCtorEq])) | (refine awp_label ?_; (try simp only [then_normal, then_exit, then_ret, block_normal, block_ret, block_exit, scope_normal, scope_ret, scope_exit, if_true, reduceIte, Nat.reduceEqDiff, reduceCtorEq])) | (refine awp_ret ?_; (try simp only [then_normal, then_exit, then_ret, block_normal, block_ret, block_exit, scope_normal, scope_ret, scope_exit, if_true, reduceIte, Nat.reduceEqDiff, reduceCtorEq])) | refine awp_cond_t rfl ?_ | refine awp_cond_f rfl ?_)
  refine awp_loop (fun j st => ∃ (m : Nat) (p : List UInt8) (h' : AHeap) (F' : Nat → Prop), j = m ∧ m ≤ n ∧ p ++ nb m = nb n ∧ Wr h' F' id (l ++ p) sp ∧ Kept h0 F h' F' ∧ st.le ⟨Try.f12.ntmps, [(0, .ptr id 0), (1, .int .i64 (m : Nat))], h'⟩) n ?_ ?_
  rotate_left
  · rintro j st ⟨m, p, h', F', rfl, hm, hp, hw', hk, hle⟩
    refine awp_le hle ?_
    obtain ⟨w1, w2, t, w3, w4⟩ := hw'
    have h7 := nb_seven hn
    have hkl := hk.1
    have hpl : (p ++ nb j).length ≤ 7 := by rw [hp]; exact h7
    simp only [List.length_append] at hpl
    have hlp : l.length + p.length ≤ 140737488355327 := by omega
    repeat (first | (refine goes_done ?_; (try simp only [then_normal, then_exit, then_ret, block_normal, block_ret, block_exit, scope_normal, scope_ret, scope_exit, if_true, reduceIte, Nat.reduceEqDiff, reduceCtorEq])) | refine awp_seq ?_ | refine awp_region' (run_start (goes_eq (by simp (disch := (first | omega | (simp; done) | fail)) [if_pos, if_neg, wrap_i64, tmod_pos, tdiv_pos, Int.toNat_add]; rfl) ?_)) | refine awp_block ?_ | refine awp_scope ?_ | (refine awp_exit ?_; (try simp only [then_normal, then_exit, then_ret, block_normal, block_ret, block_exit, scope_normal, scope_ret, scope_exit, if_true, reduceIte, Nat.reduceEqDiff, reduceCtorEq])) | (refine awp_skip ?_; (try simp only [then_normal, then_exit, then_ret, block_normal, block_ret, block_exit, scope_normal, scope_ret, scope_exit, if_true, reduceIte, Nat.reduceEqDiff, reduceCtorEq])) | (refine awp_label ?_; (try simp only [then_normal, then_exit, then_ret, block_normal, block_ret, block_exit, scope_normal, scope_ret, scope_exit, if_true, reduceIte, Nat.reduceEqDiff, reduceCtorEq])) | (refine awp_ret ?_; (try simp only [then_normal, then_exit, then_ret, block_normal, block_ret, block_exit, scope_normal, scope_ret, scope_exit, if_true, reduceIte, Nat.reduceEqDiff, reduceCtorEq])) | refine awp_cond_t rfl ?_ | refine awp_cond_f rfl ?_)
    refine awp_cond rfl (fun h1 => ?_) (fun h1 => ?_)
    · simp at h1
      have h1' : 128 ≤ j := by omega
      rw [nb_big h1', List.append_cons] at hp
      rcases w4 with rfl | ⟨i, rfl, hij, hFi, hi⟩
      · have hs := wr_full (sp := sp) w1 w2 (l ++ (p ++ [b8n (128 + j % 128)]))
        repeat (first | (refine goes_done ?_; (try simp only [then_normal, then_exit, then_ret, block_normal, block_ret, block_exit, scope_normal, scope_ret, scope_exit, if_true, reduceIte, Nat.reduceEqDiff, reduceCtorEq])) | refine awp_seq ?_ | refine awp_region' (run_start (goes_eq (by simp (disch := (first | omega | (simp; done) | fail)) [if_pos, if_neg, wrap_i64, tmod_pos, tdiv_pos, Int.toNat_add, w3, hlp, List.getElem?_append_left (w1 id w2), or128]; rfl) ?_)) | refine awp_block ?_ | refine awp_scope ?_ | (refine awp_exit ?_; (try simp only [then_normal, then_exit, then_ret, block_normal, block_ret, block_exit, scope_normal, scope_ret, scope_exit, if_true, reduceIte, Nat.reduceEqDiff, reduceCtorEq])) | (refine awp_skip ?_; (try simp only [then_normal, then_exit, then_ret, block_normal, block_ret, block_exit, scope_normal, scope_ret, scope_exit, if_true, reduceIte, Nat.reduceEqDiff, reduceCtorEq])) | (refine awp_label ?_; (try simp only [then_normal, then_exit, then_ret, block_normal, block_ret, block_exit, scope_normal, scope_ret, scope_exit, if_true, reduceIte, Nat.reduceEqDiff, reduceCtorEq])) | (refine awp_ret ?_; (try simp only [then_normal, then_exit, then_ret, block_normal, block_ret, block_exit, scope_normal, scope_ret, scope_exit, if_true, reduceIte, Nat.reduceEqDiff, reduceCtorEq])) | refine awp_cond_t rfl ?_ | refine awp_cond_f rfl ?_)
        refine ⟨j / 128, by omega, j / 128, p ++ [b8n (128 + j % 128)], _, _, rfl, by omega, hp, hs.1, hk.trans hs.2, st_keep' (by simp [← b8_more]) (by simp [← b8_more])⟩
      · have hs := wr_own (sp := sp) w1 w2 hFi (l ++ (p ++ [b8n (128 + j % 128)]))
        have hga := fun y => List.getElem?_append_left (l₁ := h'.set i .dead) (l₂ := y) (i := id) (by simpa using w1 id w2)
        repeat (first | (refine goes_done ?_; (try simp only [then_normal, then_exit, then_ret, block_normal, block_ret, block_exit, scope_normal, scope_ret, scope_exit, if_true, reduceIte, Nat.reduceEqDiff, reduceCtorEq])) | refine awp_seq ?_ | refine awp_region' (run_start (goes_eq (by simp (disch := (first | omega | (simp; done) | fail)) [if_pos, if_neg, wrap_i64, tmod_pos, tdiv_pos, Int.toNat_add, w3, hlp, hi, hga, or128, hij]; rfl) ?_)) | refine awp_block ?_ | refine awp_scope ?_ | (refine awp_exit ?_; (try simp only [then_normal, then_exit, then_ret, block_normal, block_ret, block_exit, scope_normal, scope_ret, scope_exit, if_true, reduceIte, Nat.reduceEqDiff, reduceCtorEq])) | (refine awp_skip ?_; (try simp only [then_normal, then_exit, then_ret, block_normal, block_ret, block_exit, scope_normal, scope_ret, scope_exit, if_true, reduceIte, Nat.reduceEqDiff, reduceCtorEq])) | (refine awp_label ?_; (try simp only [then_normal, then_exit, then_ret, block_normal, block_ret, block_exit, scope_normal, scope_ret, scope_exit, if_true, reduceIte, Nat.reduceEqDiff, reduceCtorEq])) | (refine awp_ret ?_; (try simp only [then_normal, then_exit, then_ret, block_normal, block_ret, block_exit, scope_normal, scope_ret, scope_exit, if_true, reduceIte, Nat.reduceEqDiff, reduceCtorEq])) | refine awp_cond_t rfl ?_ | refine awp_cond_f rfl ?_)
        refine ⟨j / 128, by omega, j / 128, p ++ [b8n (128 + j % 128)], _, _, rfl, by omega, hp, hs.1, hk.trans hs.2, st_keep' (by simp [← b8_more]) (by simp [← b8_more])⟩
    · simp at h1
      have h1' : j < 128 := by omega
      rw [nb_small h1'] at hp
      have e : ∀ t, AV.list (List.map b8 l ++ (List.map b8 p ++ [AV.int .u8 ((j : Int) % 256)])) t = AV.list (List.map b8 (l ++ nb n)) t := fun t => by
        rw [← hp, b8_last j h1']; simp
      rcases w4 with rfl | ⟨i, rfl, hij, hFi, hi⟩
      · have hs := wr_full (sp := sp) w1 w2 (l ++ nb n)
        repeat (first | (refine goes_done ?_; (try simp only [then_normal, then_exit, then_ret, block_normal, block_ret, block_exit, scope_normal, scope_ret, scope_exit, if_true, reduceIte, Nat.reduceEqDiff, reduceCtorEq])) | refine awp_seq ?_ | refine awp_region' (run_start (goes_eq (by simp (disch := (first | omega | (simp; done) | fail)) [if_pos, if_neg, wrap_i64, tmod_pos, tdiv_pos, Int.toNat_add, w3, hlp, List.getElem?_append_left (w1 id w2)]; rfl) ?_)) | refine awp_block ?_ | refine awp_scope ?_ | (refine awp_exit ?_; (try simp only [then_normal, then_exit, then_ret, block_normal, block_ret, block_exit, scope_normal, scope_ret, scope_exit, if_true, reduceIte, Nat.reduceEqDiff, reduceCtorEq])) | (refine awp_skip ?_; (try simp only [then_normal, then_exit, then_ret, block_normal, block_ret, block_exit, scope_normal, scope_ret, scope_exit, if_true, reduceIte, Nat.reduceEqDiff, reduceCtorEq])) | (refine awp_label ?_; (try simp only [then_normal, then_exit, then_ret, block_normal, block_ret, block_exit, scope_normal, scope_ret, scope_exit, if_true, reduceIte, Nat.reduceEqDiff, reduceCtorEq])) | (refine awp_ret ?_; (try simp only [then_normal, then_exit, then_ret, block_normal, block_ret, block_exit, scope_normal, scope_ret, scope_exit, if_true, reduceIte, Nat.reduceEqDiff, reduceCtorEq])) | refine awp_cond_t rfl ?_ | refine awp_cond_f rfl ?_)
        first | refine body_all (.inr rfl) (by simp; rfl) (by simp; rfl) (by first | (simp; done) | (simp; omega)) ?_ | refine body_all (.inl rfl) (by simp; rfl) (by simp; rfl) (by first | (simp; done) | (simp; omega)) ?_
        simp only [e]
        exact ⟨trivial, _, hs.1, hk.trans hs.2⟩
      · have hs := wr_own (sp := sp) w1 w2 hFi (l ++ nb n)
        have hga := fun y => List.getElem?_append_left (l₁ := h'.set i .dead) (l₂ := y) (i := id) (by simpa using w1 id w2)
        repeat (first | (refine goes_done ?_; (try simp only [then_normal, then_exit, then_ret, block_normal, block_ret, block_exit, scope_normal, scope_ret, scope_exit, if_true, reduceIte, Nat.reduceEqDiff, reduceCtorEq])) | refine awp_seq ?_ | refine awp_region' (run_start (goes_eq (by simp (disch := (first | omega | (simp; done) | fail)) [if_pos, if_neg, wrap_i64, tmod_pos, tdiv_pos, Int.toNat_add, w3, hlp, hi, hga, hij]; rfl) ?_)) | refine awp_block ?_ | refine awp_scope ?_ | (refine awp_exit ?_; (try simp only [then_normal, then_exit, then_ret, block_normal, block_ret, block_exit, scope_normal, scope_ret, scope_exit, if_true, reduceIte, Nat.reduceEqDiff, reduceCtorEq])) | (refine awp_skip ?_; (try simp only [then_normal, then_exit, then_ret, block_normal, block_ret, block_exit, scope_normal, scope_ret, scope_exit, if_true, reduceIte, Nat.reduceEqDiff, reduceCtorEq])) | (refine awp_label ?_; (try simp only [then_normal, then_exit, then_ret, block_normal, block_ret, block_exit, scope_normal, scope_ret, scope_exit, if_true, reduceIte, Nat.reduceEqDiff, reduceCtorEq])) | (refine awp_ret ?_; (try simp only [then_normal, then_exit, then_ret, block_normal, block_ret, block_exit, scope_normal, scope_ret, scope_exit, if_true, reduceIte, Nat.reduceEqDiff, reduceCtorEq])) | refine awp_cond_t rfl ?_ | refine awp_cond_f rfl ?_)
        first | refine body_all (.inr rfl) (by simp; rfl) (by simp; rfl) (by first | (simp; done) | (simp; omega)) ?_ | refine body_all (.inl rfl) (by simp; rfl) (by simp; rfl) (by first | (simp; done) | (simp; omega)) ?_
        simp only [e]
        exact ⟨trivial, _, hs.1, hk.trans hs.2⟩
  · exact ⟨n, [], h0, F, rfl, Nat.le_refl _, rfl, by simpa using hw, Kept.refl _ _, st_keep' (by simp []) (by simp [])⟩
end Go.Proofs.Ytfcfkbaikkkibaa.N
