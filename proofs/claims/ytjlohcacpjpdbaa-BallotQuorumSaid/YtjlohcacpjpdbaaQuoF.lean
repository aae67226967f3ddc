/- Rows that grow by append, as rows of whole numbers; and the plain law of quorums. -/
import Derived.Test.YtjlohcacpjpdbaaBalEq
import Derived.Test.YtjlohcacpjpdbaaAppend
set_option linter.unusedVariables false
set_option linter.unusedSimpArgs false
namespace Go.Proofs.Ytjlohcacpjpdbaa.BalQ
open Go.RowKit Go.WideShapes
open Go.Proofs.Ytjlohcacpjpdbaa Go.Proofs.Ytjlohcacpjpdbaa.Base Go.Proofs.Ytjlohcacpjpdbaa.Read Go.Proofs.Ytjlohcacpjpdbaa.Bal
theorem own_below {w w' : World} {base : Nat} {e : TypeId} {size : Nat} {v : Value} {n : Nat} {xs : List Value} (h : w.ownsRow base e size v n xs) (hb : Below w.heap.size w w') : w'.ownsRow base e size v n xs := by
  refine ⟨h.1, ?_⟩
  rcases h.2 with h1 | ⟨g, cap, cur, h1, h2, h3, h4⟩
  · exact .inl h1
  · refine .inr ⟨g, cap, cur, h1, h2, ?_, h4⟩
    rw [hb.block g (by
      rcases Nat.lt_or_ge g w.heap.size with hlt | hge
      · exact hlt
      · rw [Array.getElem?_eq_none hge] at h3; cases h3)]
    exact h3
theorem own_from {w : World} {base : Nat} {e : TypeId} {size : Nat} {v : Value} {n : Nat} {xs : List Value} (h : w.ownsRow base e size v n xs) : ∀ k, v.ownBlock = some k → base ≤ k := by
  intro k hk
  rcases h.2 with ⟨rfl, _⟩ | ⟨g, cap, cur, rfl, h2, _⟩
  · cases hk
  · injection hk with hk; subst hk; exact h2
theorem own_row {w : World} {base : Nat} {e : TypeId} {v : Value} {n : Nat} {l : List Int} (h : w.ownsRow base e 1 v n (l.map (.int .i64))) (hn : 0 < n) (hw : ∀ x ∈ l, (Lit.int .i64 x).wf = true) :
    ∃ A c, v = .slice A n c ∧ Row 1 (rInt .i64) w A l := by
  have hl : l.length = n := by have := h.1; simpa using this
  rcases h.2 with ⟨_, h1⟩ | ⟨g, cap, cur, rfl, h2, h3, h4, h5, h6, h7⟩
  · omega
  · refine ⟨_, _, rfl, Row.of_ints (by omega) hw fun i hi => ?_⟩
    rw [cell_of_row _ _ _ _ _ _ h3]
    have h8 : (cur.toList.take (n * 1))[i]? = (l.map (Value.int .i64))[i]? := by rw [h7]
    rw [List.getElem?_take, if_pos (by omega)] at h8
    simpa [hi] using h8
theorem row_in {w : World} {A : Option Addr} {l : List Int} (h : Row 1 (rInt .i64) w A l) : App.CellsIn w A (l.map (.int .i64)) := by
  intro hn
  obtain ⟨b, off, e, hc⟩ := h.ints (by simpa using hn)
  exact ⟨b, off, e, fun j hj => by simpa using hc j (by simpa using hj)⟩
theorem row_wf {w : World} {A : Option Addr} {l : List Int} (h : Row 1 (rInt .i64) w A l) : ∀ x ∈ l, (Lit.int .i64 x).wf = true := by
  intro x hx
  obtain ⟨i, hi, rfl⟩ := List.getElem_of_mem hx
  obtain ⟨b, off, e, hc⟩ := h.2 (by omega)
  obtain ⟨ecs, _, _, _, hw⟩ := hc i hi
  exact hw
section
variable {H : Type} {enc : TypeId × Value → H} {w : World} {v : Value} {d : DataW H} {p : List MemPlace} {r : Reach} {b0 : Nat}
def RowAt (w : World) (x : Ints) : Prop := IntsAt w x ∧ (x.a = none → x.c = 0)
def vSl (x : Ints) : Value := vInts x
def vCf (x : Int × Ints) : Value := vCfg x
theorem open_Sl_int (hv : Value.okWide Try.prog w r b0 33 v) (h : DataW.Trod enc Try.prog w 0 (fun _ => true) true 33 v d p) : ∃ x, v = vSl x ∧ RowAt w x := by
  obtain ⟨x, rfl, hr⟩ := Bal.open_Sl_int hv h
  refine ⟨x, rfl, hr, fun hx => ?_⟩
  obtain ⟨fuel, h⟩ := h
  rcases Deep.open_slice Try.underlying33 h with ⟨h1, _⟩ | ⟨a, len, cap, m, n, D, Pl, h1, _⟩
  · simp [vSl, vInts, Value.cells] at h1
    exact h1.2.2
  · simp [vSl, vInts, Value.cells, hx] at h1
theorem open_api_Config (hv : Value.okWide Try.prog w r b0 35 v) (h : DataW.Trod enc Try.prog w 0 (fun _ => true) true 35 v d p) : ∃ x, v = vCf x ∧ IntsAt w x.2 := Bal.open_api_Config hv h
end
theorem cnt_more (l who : List Int) (x : Int) : cntL l who ≤ cntL l (who ++ [x]) := by
  induction l with
  | nil => simp [cntL]
  | cons y l ih =>
    unfold cntL at *
    rw [List.filter_cons, List.filter_cons]
    by_cases h : y ∈ who
    · rw [if_pos (by simpa using h), if_pos (by simp [h])]
      simp only [List.length_cons]; omega
    · rw [if_neg (by simpa using h)]
      split
      · simp only [List.length_cons]; omega
      · exact ih
theorem cnt_same (l who : List Int) (x : Int) (hx : ¬ x ∈ l) : cntL l (who ++ [x]) = cntL l who := by
  induction l with
  | nil => simp [cntL]
  | cons y l ih =>
    have h2 : ¬ y = x := fun e => hx (by simp [e])
    have := ih (fun h => hx (by simp [h]))
    unfold cntL at *
    by_cases h : y ∈ who <;> simp [List.filter_cons, h, h2] at * <;> omega
theorem cnt_all (l : List Int) : cntL l l = l.length := by
  unfold cntL
  rw [List.filter_eq_self.2 (by intro x hx; simpa using hx)]
theorem enough_more (l who : List Int) (x : Int) (h : enoughB l who = true) : enoughB l (who ++ [x]) = true := by
  have := cnt_more l who x
  unfold enoughB at *
  simp only [decide_eq_true_eq] at *
  omega
theorem enough_same (l who : List Int) (x : Int) (hx : decide (x ∈ l) = false) : enoughB l (who ++ [x]) = enoughB l who := by
  unfold enoughB
  rw [cnt_same l who x (by simpa using hx)]
theorem quorum_le (n : Nat) : quorumN (n : Int) ≤ n := by unfold quorumN; split <;> omega
theorem all_enough (l who : List Int) (h : allB l who = true) : enoughB l who = true := by
  have := quorum_le l.length
  unfold allB at h
  unfold enoughB
  simp only [Bool.and_eq_true, decide_eq_true_eq] at *
  rw [h.2]; exact this
theorem enough_self (l : List Int) : enoughB l l = true := by
  have := quorum_le l.length
  unfold enoughB
  rw [cnt_all]
  simpa using this
theorem quorum_of {n : Int} (h : 1 ≤ n) : 1 ≤ quorumN n ∧ quorumN n ≤ n ∧ n < 2 * quorumN n ∧ 2 * (quorumN n - 1) ≤ n := by
  unfold quorumN
  rw [if_neg (by omega)]
  omega
end Go.Proofs.Ytjlohcacpjpdbaa.BalQ
