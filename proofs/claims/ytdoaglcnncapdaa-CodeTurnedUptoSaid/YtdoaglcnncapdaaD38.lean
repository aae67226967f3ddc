import Derived.Test.YtdoaglcnncapdaaDD
import Derived.IntWalk
import Derived.Test.YtdoaglcnncapdaaV23
/- Messages as bytes: the law CodeTurned. -/
set_option linter.unusedVariables false
set_option linter.unusedSimpArgs false
set_option maxRecDepth 20000
namespace Go.Proofs.Ytdoaglcnncapdaa.F
open Go Go.Proofs.Ytdoaglcnncapdaa.V
open Go.Proofs.Ytdoaglcnncapdaa.Sum (crcB)
theorem le4_num (l : List UInt8) (h : 4 ≤ l.length) : le4 (num l) = l.take 4 := by
  match l, h with
  | a :: b :: c :: d :: r, _ =>
    have ha := a.toNat_lt
    have hb := b.toNat_lt
    have hc := c.toNat_lt
    have hd := d.toNat_lt
    have e : ∀ (n : Nat) (x : UInt8), n % 256 = x.toNat → b8n n = x := fun n x hx => UInt8.toNat_inj.1 (by rw [b8n_toNat, hx])
    simp only [le4, num, List.getD_cons_zero, List.getD_cons_succ, List.take_succ_cons, List.take_zero]
    rw [e _ a (by omega), e _ b (by omega), e _ c (by omega), e _ d (by omega)]
theorem set_parts {x : List UInt8} {j : Nat} (hj : j < x.length) (y : UInt8) : x.set j y = x.take j ++ y :: x.drop (j + 1) := by
  rw [List.set_eq_take_append_cons_drop, if_pos hj]
theorem crcN_turned {x : List UInt8} {j : Nat} (hj : j < x.length) {y : UInt8} (hy : x[j] ≠ y) : crcN (x.set j y) ≠ crcN x := by
  intro h
  have h2 : crcB 0#32 (x.set j y) = crcB 0#32 x := BitVec.eq_of_toNat_eq h
  have e : x = x.take j ++ x[j] :: x.drop (j + 1) := by
    rw [← List.drop_eq_getElem_cons hj, List.take_append_drop]
  rw [set_parts hj] at h2
  conv at h2 => rhs; rw [e]
  unfold Sum.crcB at h2
  simp only [List.map_append, List.map_cons] at h2
  have := (Crc.crc_turned _ _ _ _ _ y.toNat_lt (x[j]).toNat_lt).1 h2
  exact hy (UInt8.toNat_inj.1 this.symm)
theorem takeB_turned {x : List UInt8} (hx : x.length ≤ 16777215) {k : Nat} (h4 : 4 ≤ k) (hk : k < x.length + 8) {y : UInt8} (hy : (fr x)[k]? ≠ some y) : takeB ((fr x).set k y) = ([], 0, 12) := by
  have hp : (le4 x.length).length = 4 := rfl
  have hq : (le4 (crcN x)).length = 4 := rfl
  have hc := crcN_lt x
  have e0 : (fr x).set k y = le4 x.length ++ (le4 (crcN x) ++ x).set (k - 4) y := by
    unfold fr; rw [List.set_append_right _ _ (by omega)]; rfl
  have eg : (fr x)[k]? = (le4 (crcN x) ++ x)[k - 4]? := by
    unfold fr; rw [List.getElem?_append_right (by omega)]; rfl
  rw [eg] at hy
  have hlen : ((fr x).set k y).length = 8 + x.length := by rw [List.length_set, fr_length]
  have hnum : num ((fr x).set k y) = x.length := by rw [e0]; exact num_le4 _ (by omega) _
  have d4 : ((fr x).set k y).drop 4 = (le4 (crcN x) ++ x).set (k - 4) y := by rw [e0, List.drop_left' hp]
  refine takeB_5 (by omega) (by omega) (by omega) ?_
  rw [d4, hnum]
  by_cases h8 : k < 8
  · have e1 : (le4 (crcN x) ++ x).set (k - 4) y = (le4 (crcN x)).set (k - 4) y ++ x := List.set_append_left _ _ (by omega)
    have d8 : ((fr x).set k y).drop 8 = x := by
      rw [show 8 = 4 + 4 from rfl, ← List.drop_drop, d4, e1, List.drop_left' (by simp)]
    rw [d8, List.take_length, e1]
    intro h
    have h2 := le4_num ((le4 (crcN x)).set (k - 4) y ++ x) (by simp)
    rw [h, List.take_left' (by simp)] at h2
    rw [List.getElem?_append_left (by omega)] at hy
    apply hy
    rw [h2, List.getElem?_set_self (by omega)]
  · have e1 : (le4 (crcN x) ++ x).set (k - 4) y = le4 (crcN x) ++ x.set (k - 8) y := by
      have e9 : k - 4 - (le4 (crcN x)).length = k - 8 := by rw [hq]; omega
      rw [List.set_append_right _ _ (by omega), e9]
    have d8 : ((fr x).set k y).drop 8 = x.set (k - 8) y := by
      rw [show 8 = 4 + 4 from rfl, ← List.drop_drop, d4, e1, List.drop_left' hq]
    rw [d8, e1, num_le4 _ hc, List.take_of_length_le (by simp)]
    have hj : k - 8 < x.length := by omega
    rw [List.getElem?_append_right (by omega), hq, show k - 4 - 4 = k - 8 by omega, List.getElem?_eq_getElem hj] at hy
    exact fun h => crcN_turned hj (fun e => hy (by rw [e])) h.symm
theorem xor_u8 (x y : UInt8) : bits .xor .u8 (x.toNat : Int) (y.toNat : Int) = ((x ^^^ y).toNat : Int) := by
  rw [u8_xor_nat _ _ x.toNat_lt y.toNat_lt]; simp
theorem xor_ne {x y : UInt8} (h : y ≠ 0) : x ≠ x ^^^ y := by
  intro e
  apply h
  have h2 : x ^^^ (x ^^^ y) = x ^^^ x := by rw [← e]
  rw [← UInt8.xor_assoc, UInt8.xor_self, UInt8.zero_xor] at h2
  exact h2
theorem num_turned {x : List UInt8} (hx : x.length ≤ 16777215) {k : Nat} (h4 : k < 4) {y : UInt8} (hy : (fr x)[k]? ≠ some y) : num ((fr x).set k y) ≠ x.length := by
  intro h
  have hp : (le4 x.length).length = 4 := rfl
  have e0 : (fr x).set k y = (le4 x.length).set k y ++ (le4 (crcN x) ++ x) := by
    unfold fr; rw [List.set_append_left _ _ (by omega)]
  have eg : (fr x)[k]? = (le4 x.length)[k]? := by
    unfold fr; rw [List.getElem?_append_left (by omega)]
  have h2 := le4_num ((fr x).set k y) (by rw [List.length_set, fr_length]; omega)
  rw [h, e0, List.take_left' (by simp)] at h2
  rw [eg] at hy
  apply hy
  rw [h2, List.getElem?_set_self (by omega)]
end Go.Proofs.Ytdoaglcnncapdaa.F
namespace Go.Proofs.Ytdoaglcnncapdaa.D
open Go Go.Proofs.Ytdoaglcnncapdaa.V Go.Proofs.Ytdoaglcnncapdaa.N Go.RowKit
theorem ofFr_turned {x : List UInt8} (hx : x.length ≤ 16777215) {k : Nat} (hk : k < x.length + 8) {y : UInt8} (hy : (F.fr x)[k]? ≠ some y) : (ofFr ((F.fr x).set k y)).2 ≠ 0 := by
  unfold ofFr
  by_cases h4 : 4 ≤ k
  · rw [F.takeB_turned hx h4 hk hy]; simp
  · have hn := F.num_turned hx (Nat.lt_of_not_le h4) hy
    have hl : ((F.fr x).set k y).length = 8 + x.length := by rw [List.length_set, F.fr_length]
    by_cases h0 : (F.takeB ((F.fr x).set k y)).2.2 = 0
    · rw [if_pos h0]
      have : (F.takeB ((F.fr x).set k y)).2.1 = 8 + F.num ((F.fr x).set k y) := by
        unfold F.takeB at h0 ⊢
        split at h0
        · simp at h0
        · split at h0
          · simp at h0
          · split at h0
            · simp at h0
            · split at h0
              · rename_i q1 q2 q3 q4
                simp only [if_neg q1, if_neg q2, if_neg q3, if_pos q4]
              · simp at h0
      rw [if_neg (by omega)]
      simp
    · rw [if_neg h0]; exact h0
theorem turned (m : Msg) (a : Int) (y : UInt8) (ha : -9223372036854775808 ≤ a ∧ a ≤ 9223372036854775807) (hm : wts m.t ≤ 1050000) (h : AHeap) : ACalls Try.prog 6 [.agg m.c, .int .i64 a, .int .u8 (y.toNat : Int)] h fun x h' => x = .bool true ∧ h' = h := by
  obtain ⟨hmo, hml⟩ := msg_fine hm
  have hms := msg_strip m
  have q1 : m.c.take 27 = m.c := rfl
  have hyb := y.toNat_lt
  refine acalls_of_awp Try.func6 rfl (by simp only [List.length_cons, List.length_nil]; decide) ?_
  simp only [params_cons, params_nil]
  refine awp_seq ?_
  refine awp_region' (run_start (goes_eq (by simp -implicitDefEqProofs (disch := (first | omega | (simp; done) | fail)) [if_pos, if_neg, wrap_i64, tmod_pos, tdiv_pos, Int.toNat_add]; rfl) ?_))
  refine goes_done ?_
  (try simp only [vq, if_true, reduceIte, Nat.reduceEqDiff, reduceCtorEq])
  refine awp_hard (id := h.length) (by simp -implicitDefEqProofs; rfl) ?_
  simp -implicitDefEqProofs only [Slots.melt, AV.melt, Nat.add_left_cancel_iff, Nat.add_eq_left, Nat.left_eq_add, Nat.reduceEqDiff, reduceIte, Nat.succ_ne_self, Nat.one_ne_zero, Nat.zero_ne_one, List.set_append_right, List.set_append_left, Nat.sub_self, Nat.le_refl, Nat.add_sub_cancel_left, Nat.le_add_right, List.set_cons_zero, List.set_cons_succ]
  repeat (first | ((first | refine goes_done ?_ | refine awp_exit ?_ | refine awp_skip ?_ | refine awp_label ?_ | refine awp_ret ?_); (try simp only [vq, if_true, reduceIte, Nat.reduceEqDiff, reduceCtorEq])) | refine awp_seq ?_ | refine awp_region' (run_start (goes_eq (by simp -implicitDefEqProofs (disch := (first | omega | (simp; done) | fail)) [if_pos, if_neg, wrap_i64, tmod_pos, tdiv_pos, Int.toNat_add]; rfl) ?_)) | refine awp_block ?_ | refine awp_scope ?_ | refine awp_cond_t rfl ?_ | refine awp_cond_f rfl ?_)
  refine goes_callS (callable_of Try.func10) (by simp -implicitDefEqProofs (disch := (first | omega | (simp; done) | fail)) [if_pos, if_neg, wrap_i64, tmod_pos, tdiv_pos, Int.toNat_add] <;> first | rfl | omega) _ (works_ok _) ?_
  rintro _ h1 ⟨rfl, rfl⟩
  refine goes_eq (by simp -implicitDefEqProofs (disch := (first | omega | (simp; done) | fail)) [if_pos, if_neg, wrap_i64, tmod_pos, tdiv_pos, Int.toNat_add]; rfl) ?_
  repeat (first | ((first | refine goes_done ?_ | refine awp_exit ?_ | refine awp_skip ?_ | refine awp_label ?_ | refine awp_ret ?_); (try simp only [vq, if_true, reduceIte, Nat.reduceEqDiff, reduceCtorEq])) | refine awp_seq ?_ | refine awp_region' (run_start (goes_eq (by simp -implicitDefEqProofs (disch := (first | omega | (simp; done) | fail)) [if_pos, if_neg, wrap_i64, tmod_pos, tdiv_pos, Int.toNat_add, Msg.c_len, q1]; rfl) ?_)) | refine awp_block ?_ | refine awp_scope ?_ | refine awp_cond_t rfl ?_ | refine awp_cond_f rfl ?_)
  refine goes_callS (callable_of Try.func11) (by simp -implicitDefEqProofs (disch := (first | omega | (simp; done) | fail)) [if_pos, if_neg, wrap_i64, tmod_pos, tdiv_pos, Int.toNat_add, hms] <;> first | rfl | omega) _ (few_ok m _) ?_
  rintro _ _ ⟨⟨b1, rfl⟩, rfl⟩
  cases b1 with
  | false =>
    refine goes_eq (by simp -implicitDefEqProofs (disch := (first | omega | (simp; done) | fail)) [if_pos, if_neg, wrap_i64, tmod_pos, tdiv_pos, Int.toNat_add]; rfl) ?_
    repeat (first | ((first | refine goes_done ?_ | refine awp_exit ?_ | refine awp_skip ?_ | refine awp_label ?_ | refine awp_ret ?_); (try simp only [vq, if_true, reduceIte, Nat.reduceEqDiff, reduceCtorEq])) | refine awp_seq ?_ | refine awp_region' (run_start (goes_eq (by simp -implicitDefEqProofs (disch := (first | omega | (simp; done) | fail)) [if_pos, if_neg, wrap_i64, tmod_pos, tdiv_pos, Int.toNat_add]; rfl) ?_)) | refine awp_block ?_ | refine awp_scope ?_ | refine awp_cond_t rfl ?_ | refine awp_cond_f rfl ?_)
    first | refine body_pure (.inr rfl) (by simp -implicitDefEqProofs; rfl) (by simp -implicitDefEqProofs; rfl) (by simp) ?_ | refine body_pure (.inl rfl) (by simp -implicitDefEqProofs; rfl) (by simp -implicitDefEqProofs; rfl) (by simp) ?_
    simp
  | true =>
  by_cases h4 : y = 0
  · subst h4
    refine goes_eq (by simp -implicitDefEqProofs (disch := (first | omega | (simp; done) | fail)) [if_pos, if_neg, wrap_i64, tmod_pos, tdiv_pos, Int.toNat_add]; rfl) ?_
    repeat (first | ((first | refine goes_done ?_ | refine awp_exit ?_ | refine awp_skip ?_ | refine awp_label ?_ | refine awp_ret ?_); (try simp only [vq, if_true, reduceIte, Nat.reduceEqDiff, reduceCtorEq])) | refine awp_seq ?_ | refine awp_region' (run_start (goes_eq (by simp -implicitDefEqProofs (disch := (first | omega | (simp; done) | fail)) [if_pos, if_neg, wrap_i64, tmod_pos, tdiv_pos, Int.toNat_add]; rfl) ?_)) | refine awp_block ?_ | refine awp_scope ?_ | refine awp_cond_t rfl ?_ | refine awp_cond_f rfl ?_)
    first | refine body_pure (.inr rfl) (by simp -implicitDefEqProofs; rfl) (by simp -implicitDefEqProofs; rfl) (by simp) ?_ | refine body_pure (.inl rfl) (by simp -implicitDefEqProofs; rfl) (by simp -implicitDefEqProofs; rfl) (by simp) ?_
    simp
  have h5 : ((y.toNat : Int) == 0) = false := by
    simp only [beq_eq_false_iff_ne, ne_eq]
    intro h
    exact h4 (UInt8.toNat_inj.1 (by simp; omega))
  by_cases h2 : a < 0
  · refine goes_eq (by simp -implicitDefEqProofs (disch := (first | omega | (simp; done) | fail)) [if_pos, if_neg, wrap_i64, tmod_pos, tdiv_pos, Int.toNat_add, h5, h2]; rfl) ?_
    repeat (first | ((first | refine goes_done ?_ | refine awp_exit ?_ | refine awp_skip ?_ | refine awp_label ?_ | refine awp_ret ?_); (try simp only [vq, if_true, reduceIte, Nat.reduceEqDiff, reduceCtorEq])) | refine awp_seq ?_ | refine awp_region' (run_start (goes_eq (by simp -implicitDefEqProofs (disch := (first | omega | (simp; done) | fail)) [if_pos, if_neg, wrap_i64, tmod_pos, tdiv_pos, Int.toNat_add]; rfl) ?_)) | refine awp_block ?_ | refine awp_scope ?_ | refine awp_cond_t rfl ?_ | refine awp_cond_f rfl ?_)
    first | refine body_pure (.inr rfl) (by simp -implicitDefEqProofs; rfl) (by simp -implicitDefEqProofs; rfl) (by simp) ?_ | refine body_pure (.inl rfl) (by simp -implicitDefEqProofs; rfl) (by simp -implicitDefEqProofs; rfl) (by simp) ?_
    simp
  obtain ⟨k, rfl⟩ : ∃ k : Nat, a = k := ⟨a.toNat, by omega⟩
  refine goes_eq (by simp -implicitDefEqProofs (disch := (first | omega | (simp; done) | fail)) [if_pos, if_neg, wrap_i64, tmod_pos, tdiv_pos, Int.toNat_add, h5]; rfl) ?_
  repeat (first | ((first | refine goes_done ?_ | refine awp_exit ?_ | refine awp_skip ?_ | refine awp_label ?_ | refine awp_ret ?_); (try simp only [vq, if_true, reduceIte, Nat.reduceEqDiff, reduceCtorEq])) | refine awp_seq ?_ | refine awp_region' (run_start (goes_eq (by simp -implicitDefEqProofs (disch := (first | omega | (simp; done) | fail)) [if_pos, if_neg, wrap_i64, tmod_pos, tdiv_pos, Int.toNat_add, h5, Msg.c_len, q1]; rfl) ?_)) | refine awp_block ?_ | refine awp_scope ?_ | refine awp_cond_t rfl ?_ | refine awp_cond_f rfl ?_)
  refine goes_callS (callable_of Try.func22) (by simp -implicitDefEqProofs (disch := (first | omega | (simp; done) | fail)) [if_pos, if_neg, wrap_i64, tmod_pos, tdiv_pos, Int.toNat_add, hms] <;> first | rfl | omega) _ (frame_ok m hmo.few hml _) ?_
  rintro _ _ ⟨rfl, rfl⟩
  unfold frameV
  cases hb : bads m.t with
  | true =>
    refine goes_eq (by simp -implicitDefEqProofs (disch := (first | omega | (simp; done) | fail)) [if_pos, if_neg, wrap_i64, tmod_pos, tdiv_pos, Int.toNat_add]; rfl) ?_
    repeat (first | ((first | refine goes_done ?_ | refine awp_exit ?_ | refine awp_skip ?_ | refine awp_label ?_ | refine awp_ret ?_); (try simp only [vq, if_true, reduceIte, Nat.reduceEqDiff, reduceCtorEq])) | refine awp_seq ?_ | refine awp_region' (run_start (goes_eq (by simp -implicitDefEqProofs (disch := (first | omega | (simp; done) | fail)) [if_pos, if_neg, wrap_i64, tmod_pos, tdiv_pos, Int.toNat_add]; rfl) ?_)) | refine awp_block ?_ | refine awp_scope ?_ | refine awp_cond_t rfl ?_ | refine awp_cond_f rfl ?_)
    first | refine body_pure (.inr rfl) (by simp -implicitDefEqProofs; rfl) (by simp -implicitDefEqProofs; rfl) (by simp) ?_ | refine body_pure (.inl rfl) (by simp -implicitDefEqProofs; rfl) (by simp -implicitDefEqProofs; rfl) (by simp) ?_
    simp
  | false =>
  have hfl := F.fr_length (flat m.t)
  by_cases h3 : ((F.fr (flat m.t)).length : Int) ≤ k
  · refine goes_eq (by simp -implicitDefEqProofs (disch := (first | omega | (simp; done) | fail)) [if_pos, if_neg, wrap_i64, tmod_pos, tdiv_pos, Int.toNat_add, h3]; rfl) ?_
    repeat (first | ((first | refine goes_done ?_ | refine awp_exit ?_ | refine awp_skip ?_ | refine awp_label ?_ | refine awp_ret ?_); (try simp only [vq, if_true, reduceIte, Nat.reduceEqDiff, reduceCtorEq])) | refine awp_seq ?_ | refine awp_region' (run_start (goes_eq (by simp -implicitDefEqProofs (disch := (first | omega | (simp; done) | fail)) [if_pos, if_neg, wrap_i64, tmod_pos, tdiv_pos, Int.toNat_add, h3]; rfl) ?_)) | refine awp_block ?_ | refine awp_scope ?_ | refine awp_cond_t rfl ?_ | refine awp_cond_f rfl ?_)
    first | refine body_pure (.inr rfl) (by simp -implicitDefEqProofs; rfl) (by simp -implicitDefEqProofs; rfl) (by simp) ?_ | refine body_pure (.inl rfl) (by simp -implicitDefEqProofs; rfl) (by simp -implicitDefEqProofs; rfl) (by simp) ?_
    simp
  refine goes_eq (by simp -implicitDefEqProofs (disch := (first | omega | (simp; done) | fail)) [if_pos, if_neg, wrap_i64, tmod_pos, tdiv_pos, Int.toNat_add]; rfl) ?_
  repeat (first | ((first | refine goes_done ?_ | refine awp_exit ?_ | refine awp_skip ?_ | refine awp_label ?_ | refine awp_ret ?_); (try simp only [vq, if_true, reduceIte, Nat.reduceEqDiff, reduceCtorEq])) | refine awp_seq ?_ | refine awp_region' (run_start (goes_eq (by simp -implicitDefEqProofs (disch := (first | omega | (simp; done) | fail)) [if_pos, if_neg, wrap_i64, tmod_pos, tdiv_pos, Int.toNat_add]; rfl) ?_)) | refine awp_block ?_ | refine awp_scope ?_ | refine awp_cond_t rfl ?_ | refine awp_cond_f rfl ?_)
  refine awp_cond rfl (fun hq => by exfalso; simp at hq; omega) (fun _ => ?_)
  refine awp_skip ?_
  simp only [vq, if_true, reduceIte, Nat.reduceEqDiff, reduceCtorEq]
  refine awp_seq ?_
  refine awp_region_at 2 rfl rfl ?_
  refine run_start (goes_eq (by simp -implicitDefEqProofs (disch := (first | omega | (simp; done) | fail)) [if_pos, if_neg, wrap_i64, tmod_pos, tdiv_pos, Int.toNat_add]; rfl) ?_)
  refine goes_done ?_
  have hk : k < (F.fr (flat m.t)).length := by omega
  have hk8 : k < (flat m.t).length + 8 := by omega
  refine aops_append (e := 5) (by_ := 1) (ys := (F.fr (flat m.t)).map b8) rfl rfl Try.underlying49 (by rfl) (by rfl) (by rfl) rfl rfl (by rfl) (by simp) (by simp; omega) (by simp; omega) (by simp; omega) ?_
  intro c u hc
  refine aops_end ?_
  have hz : ∃ z, (F.fr (flat m.t))[k]? = some z := ⟨_, List.getElem?_eq_getElem hk⟩
  obtain ⟨z, hz⟩ := hz
  have hoff := ofFr_turned hml hk8 (y := z ^^^ y) (by rw [hz]; intro e; injection e with e; exact F.xor_ne h4 e)
  generalize F.fr (flat m.t) = X at *
  have hg : (List.map b8 X ++ u)[k]? = some (.int .u8 (z.toNat : Int)) := by
    rw [List.getElem?_append_left (by simpa using hk), List.getElem?_map, hz]; rfl
  have hkl : (k : Int) < X.length := by omega
  refine run_start (goes_eq (by simp -implicitDefEqProofs (disch := (first | omega | (simp; done) | fail)) [if_pos, if_neg, wrap_i64, tmod_pos, tdiv_pos, Int.toNat_add]; rfl) ?_)
  refine goes_done ?_
  simp only [vq, if_true, reduceIte, Nat.reduceEqDiff, reduceCtorEq]
  have hcs : List.take k (List.map b8 X ++ u) ++ AV.int .u8 ((z.toNat ^^^ y.toNat : Nat) : Int) :: List.drop (k + 1) (List.map b8 X ++ u) = List.map b8 (X.set k (z ^^^ y)) ++ u := by
    have e : AV.int .u8 ((z.toNat ^^^ y.toNat : Nat) : Int) = b8 (z ^^^ y) := by simp [b8]
    have h9 : k < (List.map b8 X).length := by rw [List.length_map]; omega
    rw [e, List.map_set, ← List.set_append_left _ _ h9, List.set_eq_take_append_cons_drop, if_pos (by simp at h9 ⊢; omega)]
  clear hk
  refine awp_seq (awp_region' ?_)
  refine run_start (goes_eq (by simp -implicitDefEqProofs (disch := (first | omega | (simp; done) | fail)) [if_pos, if_neg, wrap_i64, tmod_pos, tdiv_pos, Int.toNat_add, hg, F.xor_u8]; rfl) ?_)
  rw [hcs]
  refine goes_done ?_
  simp only [vq, if_true, reduceIte, Nat.reduceEqDiff, reduceCtorEq]
  have hgl : (X.set k (z ^^^ y)).length = X.length := List.length_set
  generalize X.set k (z ^^^ y) = G at hcs hoff hgl
  have hgl2 : (List.map b8 G).length = X.length := by rw [List.length_map, hgl]
  refine awp_fix (id := h.length + 1) (n := X.length) (c := c) (cs := List.map b8 G ++ u) (by simp) (List.take_left' hgl2) (by simp) (by rw [List.length_append, hgl2]; exact Nat.le_add_right _ _) ?_
  generalize (if c = X.length then Tok.full else Tok.no) = tk
  repeat (first | ((first | refine goes_done ?_ | refine awp_exit ?_ | refine awp_skip ?_ | refine awp_label ?_ | refine awp_ret ?_); (try simp only [vq, if_true, reduceIte, Nat.reduceEqDiff, reduceCtorEq])) | refine awp_seq ?_ | refine awp_region' (run_start (goes_eq (by simp -implicitDefEqProofs (disch := (first | omega | (simp; done) | fail)) [if_pos, if_neg, wrap_i64, tmod_pos, tdiv_pos, Int.toNat_add, Slots.thaw, AV.thaw]; rfl) ?_)) | refine awp_block ?_ | refine awp_scope ?_ | refine awp_cond_t rfl ?_ | refine awp_cond_f rfl ?_)
  refine goes_callS (callable_of Try.func23) (by simp -implicitDefEqProofs (disch := (first | omega | (simp; done) | fail)) [if_pos, if_neg, wrap_i64, tmod_pos, tdiv_pos, Int.toNat_add] <;> first | rfl | omega) _ (ofFrame_ok G .no (by omega) _) ?_
  rintro _ _ ⟨rfl, rfl⟩
  generalize ofFr G = w at *
  have hw : (w.2 != 0) = true := by simp; exact hoff
  have hwl := Msg.c_len w.1
  have hwo : ones w.1.c = true := by simp [Msg.c]
  generalize w.1.c = wc at *
  refine goes_eq (by simp -implicitDefEqProofs (disch := (first | omega | (simp; done) | fail)) [if_pos, if_neg, wrap_i64, tmod_pos, tdiv_pos, Int.toNat_add, hwl, hwo]; rfl) ?_
  repeat (first | ((first | refine goes_done ?_ | refine awp_exit ?_ | refine awp_skip ?_ | refine awp_label ?_ | refine awp_ret ?_); (try simp only [vq, if_true, reduceIte, Nat.reduceEqDiff, reduceCtorEq])) | refine awp_seq ?_ | refine awp_region' (run_start (goes_eq (by simp -implicitDefEqProofs (disch := (first | omega | (simp; done) | fail)) [if_pos, if_neg, wrap_i64, tmod_pos, tdiv_pos, Int.toNat_add, hw]; rfl) ?_)) | refine awp_block ?_ | refine awp_scope ?_ | refine awp_cond_t rfl ?_ | refine awp_cond_f rfl ?_)
  first | refine body_pure (.inr rfl) (by simp -implicitDefEqProofs; rfl) (by simp -implicitDefEqProofs; rfl) (by simp) ?_ | refine body_pure (.inl rfl) (by simp -implicitDefEqProofs; rfl) (by simp -implicitDefEqProofs; rfl) (by simp) ?_
  simp
theorem walk_CodeTurned (x0 : Came) {w : World} (f0 : MsgAt w x0.v) (a1 : Int) (w1 : (Lit.int .i64 a1).wf = true) (a2 : Int) (w2 : (Lit.int .u8 a2).wf = true) :
    Calls Try.prog 6 #[x0.v, .int .i64 a1, .int .u8 a2] w fun e w' => e = .returned (.bool true) ∧ Below w.heap.size w w' := by
  obtain ⟨m, hm, h0⟩ := f0
  have hx : -9223372036854775808 ≤ a1 ∧ a1 ≤ 9223372036854775807 := by simp [Lit.wf, IntKind.min, IntKind.max, IntKind.signed, IntKind.bits] at w1; omega
  have hy2 : 0 ≤ a2 ∧ a2 < 256 := by simp [Lit.wf, IntKind.min, IntKind.max, IntKind.signed, IntKind.bits] at w2; omega
  obtain ⟨y, rfl⟩ : ∃ y : UInt8, a2 = (y.toNat : Int) := ⟨UInt8.ofNat a2.toNat, by simp; omega⟩
  exact Law.calls (turned m a1 y hx hm []) w (vals_of (cells_cons h0 (cells_cons (.int _ _) (cells_cons (.int _ _) (cells_nil _)))))
end Go.Proofs.Ytdoaglcnncapdaa.D
