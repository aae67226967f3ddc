/- Frames one behind another: the plain laws. -/
import Derived.Test.YtfhldddjjbdlbaaF3
set_option linter.unusedVariables false
set_option linter.unusedSimpArgs false
set_option maxRecDepth 20000
namespace Go.Proofs.Ytfhldddjjbdlbaa.F
open Go Go.Proofs.Ytfhldddjjbdlbaa.V
attribute [-simp] List.map_take List.map_drop
attribute [local simp] take_map drop_map List.take_take
theorem num_le4 (n : Nat) (h : n < 4294967296) (r : List UInt8) : num (le4 n ++ r) = n := by
  unfold num le4
  simp only [List.cons_append, List.nil_append, List.getD_cons_zero, List.getD_cons_succ, b8n_toNat]
  omega
theorem fr_length (l : List UInt8) : (fr l).length = 8 + l.length := by simp [fr]; omega
theorem takeB_fr (l r : List UInt8) (hl : l.length ≤ 16777215) : takeB (fr l ++ r) = (l, 8 + l.length, 0) := by
  have e0 : num (fr l ++ r) = l.length := by
    have : fr l ++ r = le4 l.length ++ (le4 (crcN l) ++ l ++ r) := by simp [fr]
    rw [this, num_le4 _ (by omega)]
  have e1 : (fr l ++ r).drop 4 = le4 (crcN l) ++ (l ++ r) := by simp [fr, le4]
  have e2 : (fr l ++ r).drop 8 = l ++ r := by simp [fr, le4]
  rw [takeB_4 (by simp [fr_length]; omega) (by omega) (by simp [fr_length]; omega)]
  · rw [e0, e2]; simp
  · rw [e0, e1, e2, num_le4 _ (crcN_lt l)]; simp
def frs (l : List (List UInt8)) : List UInt8 := l.flatMap fr
theorem frs_cons (x : List UInt8) (l : List (List UInt8)) : frs (x :: l) = fr x ++ frs l := rfl
theorem frs_app (k l : List (List UInt8)) : frs (k ++ l) = frs k ++ frs l := by simp [frs]
theorem allB_frs : ∀ (l : List (List UInt8)) (r : List UInt8), (∀ x ∈ l, x.length ≤ 16777215) → allB (frs l ++ r) = (l ++ (allB r).1, (frs l).length + (allB r).2)
  | [], r, h => by simp [frs]
  | x :: l, r, h => by
    have ht := takeB_fr x (frs l ++ r) (h x (by simp))
    rw [frs_cons, List.append_assoc, allB_step (by rw [ht]), ht]
    have hd : (fr x ++ (frs l ++ r)).drop (8 + x.length) = frs l ++ r := by
      rw [← fr_length]; simp
    simp only [hd]
    rw [allB_frs l r fun y hy => h y (by simp [hy])]
    simp [fr_length]; omega
theorem allB_nil : allB [] = ([], 0) := allB_stop (by rw [takeB_1 (by simp)]; simp)
theorem frs_len2 : ∀ (l : List (List UInt8)), (∀ x ∈ l, x.length ≤ 500) → (frs l).length ≤ 508 * l.length
  | [], h => by simp [frs]
  | x :: l, h => by
    have := frs_len2 l fun y hy => h y (by simp [hy])
    have := h x (by simp)
    rw [frs_cons, List.length_append, fr_length]; simp; omega
theorem takeB_cut (x : List UInt8) (hx : x.length ≤ 16777215) (r : List UInt8) (c : Nat) (hc : c < 8 + x.length) : (takeB ((fr x ++ r).take c)).2.2 ≠ 0 := by
  have hl : ((fr x ++ r).take c).length = c := by simp [fr_length]; omega
  by_cases h8 : c < 8
  · rw [takeB_1 (by omega)]; simp
  · have hn : num ((fr x ++ r).take c) = x.length := by
      rw [num_take _ _ (by omega)]
      have : fr x ++ r = le4 x.length ++ (le4 (crcN x) ++ x ++ r) := by simp [fr]
      rw [this, num_le4 _ (by omega)]
    rw [takeB_3 (by omega) (by omega) (by omega)]; simp
theorem allB_cut : ∀ (l : List (List UInt8)) (c : Nat), (∀ x ∈ l, x.length ≤ 16777215) → c ≤ (frs l).length →
    ∃ k, k ≤ l.length ∧ allB ((frs l).take c) = (l.take k, (frs (l.take k)).length) ∧ (frs (l.take k)).length ≤ c ∧ ∀ (h : k < l.length), c < (frs (l.take k)).length + (l[k].length + 8)
  | [], c, h, hc => ⟨0, by simp, by simp [frs, allB_nil], by simp [frs], fun h => by simp at h⟩
  | x :: l, c, h, hc => by
    have hx := h x (by simp)
    by_cases h1 : c < 8 + x.length
    · exact ⟨0, by simp, by rw [frs_cons, allB_stop (takeB_cut x hx _ c h1)]; simp [frs], by simp [frs], fun _ => by simp [frs]; omega⟩
    · obtain ⟨k, h2, h3, h4, h5⟩ := allB_cut l (c - (8 + x.length)) (fun y hy => h y (by simp [hy])) (by rw [frs_cons, List.length_append, fr_length] at hc; omega)
      refine ⟨k + 1, by simp; omega, ?_, ?_, fun hk => ?_⟩
      · have e : (frs (x :: l)).take c = frs [x] ++ (frs l).take (c - (8 + x.length)) := by
          rw [frs_cons, List.take_append, fr_length, List.take_of_length_le (by rw [fr_length]; omega)]; simp [frs]
        rw [e, allB_frs [x] _ (by simpa using hx), h3]
        simp [frs_cons]; simp [frs]
      · simp only [List.take_succ_cons, frs_cons, List.length_append, fr_length]; omega
      · have := h5 (by simpa using hk)
        simp only [List.take_succ_cons, frs_cons, List.length_append, fr_length, List.getElem_cons_succ]; omega
end Go.Proofs.Ytfhldddjjbdlbaa.F
