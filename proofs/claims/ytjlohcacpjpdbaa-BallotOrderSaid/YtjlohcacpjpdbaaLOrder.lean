/- Ballots have an order; the greatest of three does not matter in which order it is looked for: the walk of the law. -/
import Derived.Test.YtjlohcacpjpdbaaLNext
import Derived.Test.YtjlohcacpjpdbaaRegion2
set_option linter.unusedVariables false
set_option linter.unusedSimpArgs false
namespace Go.Proofs.Ytjlohcacpjpdbaa.Bal
open Go.RowKit Go.WideShapes
open Go.Proofs.Ytjlohcacpjpdbaa Go.Proofs.Ytjlohcacpjpdbaa.Base Go.Proofs.Ytjlohcacpjpdbaa.Read
theorem lessB_iff (n d m e : Int) : lessB n d m e = true ↔ n < m ∨ (n = m ∧ d < e) := by
  unfold lessB; split <;> simp <;> omega
theorem lessB_no (n d m e : Int) : lessB n d m e = false ↔ ¬ (n < m ∨ (n = m ∧ d < e)) := by
  rw [← lessB_iff]; simp
theorem mostB_cases (n d m e : Int) : (mostB n d m e = (m, e) ∧ (n < m ∨ (n = m ∧ d < e))) ∨ (mostB n d m e = (n, d) ∧ ¬ (n < m ∨ (n = m ∧ d < e))) := by
  unfold mostB
  by_cases h : lessB n d m e = true
  · exact .inl ⟨by rw [if_pos h], (lessB_iff _ _ _ _).1 h⟩
  · exact .inr ⟨by rw [if_neg h], fun x => h ((lessB_iff _ _ _ _).2 x)⟩
theorem mostB_assoc (n d m e k f : Int) : mostB n d (mostB m e k f).1 (mostB m e k f).2 = mostB (mostB n d m e).1 (mostB n d m e).2 k f := by
  have key : ∀ (n d m e : Int), mostB n d m e = if n < m ∨ (n = m ∧ d < e) then (m, e) else (n, d) := fun n d m e => by
    rcases mostB_cases n d m e with ⟨h, g⟩ | ⟨h, g⟩
    · rw [h, if_pos g]
    · rw [h, if_neg g]
  rw [key m e k f, key n d m e]
  by_cases g1 : n < m ∨ n = m ∧ d < e <;> by_cases g2 : m < k ∨ m = k ∧ e < f <;> simp only [g1, g2, if_true, if_false]
  · rw [key n d k f, key m e k f, if_pos g2, if_pos (by omega)]
  · rw [key n d m e, key m e k f, if_pos g1, if_neg g2]
  · rw [key n d m e, key n d k f, if_neg g1, if_neg (by omega)]
theorem three (n d m e k f : Int) : (lessB n d m e = true ∧ lessB m e n d = false ∧ ((n == m) && (d == e)) = false ∧ lessB m e k f = false) ∨ (lessB n d m e = true ∧ lessB m e n d = false ∧ ((n == m) && (d == e)) = false ∧ lessB m e k f = true ∧ lessB n d k f = true) ∨
    (lessB n d m e = false ∧ lessB m e n d = true ∧ ((n == m) && (d == e)) = false) ∨ (lessB n d m e = false ∧ lessB m e n d = false ∧ ((n == m) && (d == e)) = true) := by
  have hz1 : ((n == m) && (d == e)) = true ↔ n = m ∧ d = e := by simp
  have hz2 : ((n == m) && (d == e)) = false ↔ ¬ (n = m ∧ d = e) := by rw [← hz1]; simp
  rw [hz1, hz2]
  simp only [lessB_iff, lessB_no]
  omega
/-- Two cells stored into a block that was made ahead of a call. -/
theorem stored2 {w4 w5 : World} (t : TypeId) (a0 b0 a b : Value) (hb : Below (w4.alloc (.cells #[a0, b0] t)).heap.size (w4.alloc (.cells #[a0, b0] t)) w5) :
    Below w4.heap.size w4 ((w5.setCell ⟨w4.heap.size, 0, none⟩ a).setCell ⟨w4.heap.size, 1, none⟩ b) ∧
    ((w5.setCell ⟨w4.heap.size, 0, none⟩ a).setCell ⟨w4.heap.size, 1, none⟩ b).cell? ⟨w4.heap.size, 0, none⟩ = some a ∧
    ((w5.setCell ⟨w4.heap.size, 0, none⟩ a).setCell ⟨w4.heap.size, 1, none⟩ b).cell? ⟨w4.heap.size, 1, none⟩ = some b := by
  have h0 : Below w4.heap.size w4 w5 := below_more (below_al' _ _) hb
  have hg : w5.heap[w4.heap.size]? = some (.cells #[a0, b0] t (0, 0)) := by
    rw [hb.block w4.heap.size (by simp)]
    exact heap_alloc_new _ _
  have h1 := heap_setCell_same w5 w4.heap.size 0 _ t a hg
  have h2 := heap_setCell_same (w5.setCell ⟨w4.heap.size, 0, none⟩ a) w4.heap.size 1 _ t b h1
  refine ⟨(h0.setCell (Nat.le_refl _) a).setCell (Nat.le_refl _) b, ?_, ?_⟩
  · rw [cell_of_row _ _ _ _ _ _ h2]; simp
  · rw [cell_of_row _ _ _ _ _ _ h2]; simp
set_option maxRecDepth 100000 in
set_option maxHeartbeats 2000000 in
theorem walk_BallotOrder {w : World} (x0 : Int × Int) (_f0 : True) (x1 : Int × Int) (_f1 : True) (x2 : Int × Int) (_f2 : True) :
    Calls Try.prog 8 #[vBal x0, vBal x1, vBal x2] w fun e w' => e = .returned (.bool true) ∧ Below w.heap.size w w' := by
  obtain ⟨n, d⟩ := x0
  obtain ⟨m, e⟩ := x1
  obtain ⟨k, f⟩ := x2
  clear _f0 _f1 _f2
  show Calls Try.prog 8 #[.agg #[.int .i64 n, .int .i64 d], .agg #[.int .i64 m, .int .i64 e], .agg #[.int .i64 k, .int .i64 f]] w _
  have hc0 : Reg.CellsAt [(⟨w.heap.size, 0, none⟩, .int .i64 n), (⟨w.heap.size, 1, none⟩, .int .i64 d), (⟨w.heap.size + 1, 0, none⟩, .int .i64 m), (⟨w.heap.size + 1, 1, none⟩, .int .i64 e), (⟨w.heap.size + 1 + 1, 0, none⟩, .int .i64 k), (⟨w.heap.size + 1 + 1, 1, none⟩, .int .i64 f)]
      (((w.alloc (.cells #[.int .i64 n, .int .i64 d] 23)).alloc (.cells #[.int .i64 m, .int .i64 e] 23)).alloc (.cells #[.int .i64 k, .int .i64 f] 23)) := by
    simp [Reg.CellsAt, go_sem]
  have heq := eql_bal
  have hne := neq_bal
  go_enter Try.func8, Try.ntmps8
  go_wp2_with fail
  ((with_reducible refine (works_any _).mono ?_); rintro e1 w1 ⟨rfl, hb1⟩)
  have hc1 := hc0.keep hb1
  have hB1 : Below w.heap.size w w1 := below_more (by repeat (first | exact Below.refl _ _ | exact below_al' _ _ | apply below_al | apply Below.drew)) hb1
  clear hc0 hb1
  have hx := hc1; simp only [Reg.CellsAt, and_true] at hx
  go_wp2_with fail
  ((with_reducible refine (less_any n d m e _).mono ?_); rintro e2 w2 ⟨rfl, hb2⟩)
  have hc2 := hc1.keep hb2
  have hB2 := below_more hB1 hb2
  clear hx hc1 hB1 hb2
  have hx := hc2; simp only [Reg.CellsAt, and_true] at hx
  go_wp2_with fail
  ((with_reducible refine (less_any m e n d _).mono ?_); rintro e3 w3 ⟨rfl, hb3⟩)
  have hc3 := hc2.keep hb3
  have hB3 := below_more hB2 hb3
  clear hx hc2 hB2 hb3
  go_upto_region 6 with fail
  obtain ⟨p, q, hpq⟩ : ∃ p q, mostB n d m e = (p, q) := ⟨_, _, rfl⟩
  obtain ⟨r, s, hrs⟩ : ∃ r s, mostB p q k f = (r, s) := ⟨_, _, rfl⟩
  obtain ⟨t, u, htu⟩ : ∃ t u, mostB m e k f = (t, u) := ⟨_, _, rfl⟩
  have E1 := Lib.hid hpq; have E2 := Lib.hid hrs; have E3 := Lib.hid htu
  have E4 : Hid (mostB n d t u = (r, s)) := by
    show _ = _
    have := mostB_assoc n d m e k f
    rw [htu, hpq] at this; simpa [hrs] using this
  have E5 : Hid (mostB m e n d = (p, q)) := by show _ = _; rw [most_comm]; exact hpq
  have E6 : Hid (mostB k f p q = (r, s)) := by show _ = _; rw [most_comm]; exact hrs
  clear hpq hrs htu
  go_cut [10] (fun s10 wx => ∃ B : Nat, s10 = .pointer (some ⟨B, 0, none⟩) ∧ Reg.CellsAt [(⟨B, 0, none⟩, .int .i64 r), (⟨B, 1, none⟩, .int .i64 s), (⟨w.heap.size, 0, none⟩, .int .i64 n), (⟨w.heap.size, 1, none⟩, .int .i64 d), (⟨w.heap.size + 1, 0, none⟩, .int .i64 m), (⟨w.heap.size + 1, 1, none⟩, .int .i64 e), (⟨w.heap.size + 1 + 1, 0, none⟩, .int .i64 k), (⟨w.heap.size + 1 + 1, 1, none⟩, .int .i64 f)] wx ∧ Below w.heap.size w wx)
  case first =>
    have e1 := E1.out; have e2 := E2.out
    clear E3 E4 E5 E6
    have hS1 := Reg.Held.start hc3; clear hc3
    refine Reg.wp_region_tree (.q 0 (.q 1 (.q 3 (.two 2 5 (.two 4 5 (.a 5 (.a 6 (.done))) (.a 4 (.a 6 (.done)))) (.a 2 (.a 4 (.a 6 (.done)))))))) (Reg.Held w3 _) (by kernel_rfl) (by kernel_rfl) (fun d _ _ _ _ h => by cases d <;> exact h) hS1 ?_
    generalize w3.drew = W0 at hS1
    repeat (first | (refine Reg.tree_skip rfl ?_ (fun K hK => ?_); (focus rfl); go_simp; refine hK _ ?_; clear hK K) | (refine Reg.tree_quiet rfl ?_ ?_; (focus rfl); apply Exists.intro; refine ⟨fun w' hS => ?_, fun K hK => ?_⟩; (first | (obtain ⟨_, hS2⟩ := hS; simp only [Reg.CellsAt, and_true] at hS2; go_simp; rfl) | (go_simp; rfl) | rfl); go_simp; refine hK _ ?_; clear hK K))
    refine Reg.tree_two ?_ ?_
    · refine Reg.tree_alone rfl ?_ (fun K hK => ?_); (focus rfl)
      go_simp
      ((with_reducible refine (most_any n d m e _).mono ?_); rintro e4 w4 ⟨rfl, hb4⟩)
      have hS4 := hS1.keep hb4; clear hS1 hb4
      refine hK _ _ hS4 ?_; clear hK K
      repeat (first | (refine Reg.tree_skip rfl ?_ (fun K hK => ?_); (focus rfl); go_simp; refine hK _ ?_; clear hK K) | (refine Reg.tree_quiet rfl ?_ ?_; (focus rfl); apply Exists.intro; refine ⟨fun w' hS => ?_, fun K hK => ?_⟩; (first | (obtain ⟨_, hS2⟩ := hS; simp only [Reg.CellsAt, and_true] at hS2; go_simp; rfl) | (go_simp; rfl) | rfl); go_simp; refine hK _ ?_; clear hK K))
      refine Reg.tree_two ?_ ?_
      · refine Reg.tree_alone rfl ?_ (fun K hK => ?_); (focus rfl)
        go_simp
        ((with_reducible refine (most_any p q k f _).mono ?_); rintro e5 w5 ⟨rfl, hb5⟩)
        have hS5 := hS4.keep hb5; clear hS4 hb5
        refine hK _ _ hS5 ?_; clear hK K
        repeat (first | (refine Reg.tree_skip rfl ?_ (fun K hK => ?_); (focus rfl); go_simp; refine hK _ ?_; clear hK K) | (refine Reg.tree_quiet rfl ?_ ?_; (focus rfl); apply Exists.intro; refine ⟨fun w' hS => ?_, fun K hK => ?_⟩; (first | (obtain ⟨_, hS2⟩ := hS; simp only [Reg.CellsAt, and_true] at hS2; go_simp; rfl) | (go_simp; rfl) | rfl); go_simp; refine hK _ ?_; clear hK K))
        refine Reg.tree_alone rfl ?_ (fun K hK => ?_); (focus rfl)
        go_simp
        have hS6 := hS5.keep (below_al' w5 (.cells #[.int .i64 0, .int .i64 0] 23))
        refine hK _ _ hS6 ?_; clear hK K
        refine Reg.tree_alone rfl ?_ (fun K hK => ?_); (focus rfl)
        go_simp
        have hS7 := hS5.keep (below_al' w5 (.cells #[.int .i64 r, .int .i64 s] 23))
        refine hK _ _ hS7 ?_; clear hK K
        refine Reg.tree_done ?_
        go_wp2_with fail
        go_meet
        exact ⟨_, rfl, cells2 hS5.2 (.int .i64 r) (.int .i64 s) 23, hS7.from hB3⟩
      · refine Reg.tree_alone rfl ?_ (fun K hK => ?_); (focus rfl)
        go_simp
        have hS6 := hS4.keep (below_al' w4 (.cells #[.int .i64 0, .int .i64 0] 23))
        refine hK _ _ hS6 ?_; clear hK K
        refine Reg.tree_alone rfl ?_ (fun K hK => ?_); (focus rfl)
        go_simp
        ((with_reducible refine (most_any p q k f _).mono ?_); rintro e5 w5 ⟨rfl, hb5⟩)
        have hS7 := hS6.keep hb5
        obtain ⟨hcB, hfB⟩ := bcell hb5
        refine hK _ _ hS7 ?_; clear hK K
        refine Reg.tree_alone rfl ?_ (fun K hK => ?_); (focus rfl)
        go_simp
        obtain ⟨hst0, hst1, hst2⟩ := stored2 23 (.int .i64 0) (.int .i64 0) (.int .i64 r) (.int .i64 s) hb5
        have hS8 := hS4.keep hst0
        refine hK _ _ hS8 ?_; clear hK K
        refine Reg.tree_done ?_
        go_wp2_with fail
        go_meet
        exact ⟨_, rfl, ⟨hst1, hst2, hS8.2⟩, hS8.from hB3⟩
    · refine Reg.tree_alone rfl ?_ (fun K hK => ?_); (focus rfl)
      go_simp
      have hS4 := hS1.keep (below_al' W0 (.cells #[.int .i64 0, .int .i64 0] 23))
      refine hK _ _ hS4 ?_; clear hK K
      refine Reg.tree_alone rfl ?_ (fun K hK => ?_); (focus rfl)
      go_simp
      ((with_reducible refine (most_any n d m e _).mono ?_); rintro e5 w5 ⟨rfl, hb5⟩)
      have hS5 := hS4.keep hb5
      refine hK _ _ hS5 ?_; clear hK K
      refine Reg.tree_alone rfl ?_ (fun K hK => ?_); (focus rfl)
      go_simp
      ((with_reducible refine (most_any p q k f _).mono ?_); rintro e6 w6 ⟨rfl, hb6⟩)
      have hb6 := below_more hb5 hb6
      have hS6 := hS4.keep hb6
      obtain ⟨hcB, hfB⟩ := bcell hb6
      refine hK _ _ hS6 ?_; clear hK K
      refine Reg.tree_alone rfl ?_ (fun K hK => ?_); (focus rfl)
      go_simp
      obtain ⟨hst0, hst1, hst2⟩ := stored2 23 (.int .i64 0) (.int .i64 0) (.int .i64 r) (.int .i64 s) hb6
      have hS8 := hS1.keep hst0
      refine hK _ _ hS8 ?_; clear hK K
      refine Reg.tree_done ?_
      go_wp2_with fail
      go_meet
      exact ⟨_, rfl, ⟨hst1, hst2, hS8.2⟩, hS8.from hB3⟩
  case rest =>
    obtain ⟨B, rfl, hc6, hB6⟩ := hcut
    have e1 := E1.out; have e2 := E2.out; have e3 := E3.out; have e4 := E4.out; have e5 := E5.out; have e6 := E6.out
    clear E1 E2 E3 E4 E5 E6
    rcases three n d m e k f with ⟨hx, hy, hz, hu⟩ | ⟨hx, hy, hz, hu, hv⟩ | ⟨hx, hy, hz⟩ | ⟨hx, hy, hz⟩
    · have hS1 := Reg.Held.start hc6; clear hc6
      go_wp2_with fail
      refine Reg.wp_region_ord [(false, 0), (false, 1), (false, 2), (false, 3), (false, 4), (false, 5), (false, 6), (false, 7), (false, 8), (false, 9), (false, 10), (false, 11), (false, 12), (false, 13), (false, 14), (false, 15), (false, 16), (false, 17), (false, 18), (false, 19), (false, 20), (false, 21), (false, 22), (false, 23), (true, 24), (false, 25), (false, 26), (false, 27), (false, 28), (false, 29), (true, 30), (false, 31), (false, 32), (false, 33), (false, 34), (false, 35), (false, 36), (false, 37), (true, 38), (true, 39), (false, 40), (false, 41), (false, 42), (false, 43), (false, 44), (false, 45), (false, 46), (true, 47), (true, 48), (false, 49), (false, 50), (false, 51)] (Reg.Held _ _) (by kernel_rfl) (by kernel_rfl) (fun d _ _ _ _ h => by cases d <;> exact h) hS1 ?_
      repeat (first | (refine Reg.ord_skip rfl ?_ (fun K hK => ?_); (focus rfl); go_simp; refine hK _ ?_; clear hK K) | (refine Reg.ord_quiet rfl ?_ ?_; (focus rfl); apply Exists.intro; refine ⟨fun w' hS => ?_, fun K hK => ?_⟩; (first | (obtain ⟨_, hS2⟩ := hS; simp only [Reg.CellsAt, and_true] at hS2; go_simp; rfl) | (go_simp; rfl) | rfl); go_simp; refine hK _ ?_; clear hK K))
      refine Reg.ord_alone rfl ?_ (fun K hK => ?_); (focus rfl)
      go_simp
      ((with_reducible refine (less_any _ _ _ _ _).mono ?_); rintro e9 w9 ⟨rfl, hb9⟩)
      have hS9 := hS1.keep hb9; clear hS1 hb9
      refine hK _ _ hS9 ?_; clear hK K
      repeat (first | (refine Reg.ord_skip rfl ?_ (fun K hK => ?_); (focus rfl); go_simp; refine hK _ ?_; clear hK K) | (refine Reg.ord_quiet rfl ?_ ?_; (focus rfl); apply Exists.intro; refine ⟨fun w' hS => ?_, fun K hK => ?_⟩; (first | (obtain ⟨_, hS2⟩ := hS; simp only [Reg.CellsAt, and_true] at hS2; go_simp; rfl) | (go_simp; rfl) | rfl); go_simp; refine hK _ ?_; clear hK K))
      refine Reg.ord_alone rfl ?_ (fun K hK => ?_); (focus rfl)
      go_simp
      ((with_reducible refine (most_any _ _ _ _ _).mono ?_); rintro e11 w11 ⟨rfl, hb11⟩)
      have hS11 := hS9.keep hb11; clear hS9 hb11
      refine hK _ _ hS11 ?_; clear hK K
      repeat (first | (refine Reg.ord_skip rfl ?_ (fun K hK => ?_); (focus rfl); go_simp; refine hK _ ?_; clear hK K) | (refine Reg.ord_quiet rfl ?_ ?_; (focus rfl); apply Exists.intro; refine ⟨fun w' hS => ?_, fun K hK => ?_⟩; (first | (obtain ⟨_, hS2⟩ := hS; simp only [Reg.CellsAt, and_true] at hS2; go_simp; rfl) | (go_simp; rfl) | rfl); go_simp; refine hK _ ?_; clear hK K))
      refine Reg.ord_alone rfl ?_ (fun K hK => ?_); (focus rfl)
      go_simp
      ((with_reducible refine (most_any _ _ _ _ _).mono ?_); rintro e12 w12 ⟨rfl, hb12⟩)
      have hS12 := hS11.keep hb12; clear hS11 hb12
      refine hK _ _ hS12 ?_; clear hK K
      repeat (first | (refine Reg.ord_skip rfl ?_ (fun K hK => ?_); (focus rfl); go_simp; refine hK _ ?_; clear hK K) | (refine Reg.ord_quiet rfl ?_ ?_; (focus rfl); apply Exists.intro; refine ⟨fun w' hS => ?_, fun K hK => ?_⟩; (first | (obtain ⟨_, hS2⟩ := hS; simp only [Reg.CellsAt, and_true] at hS2; go_simp; rfl) | (go_simp; rfl) | rfl); go_simp; refine hK _ ?_; clear hK K))
      refine Reg.ord_alone rfl ?_ (fun K hK => ?_); (focus rfl)
      go_simp
      ((with_reducible refine (most_any _ _ _ _ _).mono ?_); rintro e13 w13 ⟨rfl, hb13⟩)
      have hS13 := hS12.keep hb13; clear hS12 hb13
      refine hK _ _ hS13 ?_; clear hK K
      repeat (first | (refine Reg.ord_skip rfl ?_ (fun K hK => ?_); (focus rfl); go_simp; refine hK _ ?_; clear hK K) | (refine Reg.ord_quiet rfl ?_ ?_; (focus rfl); apply Exists.intro; refine ⟨fun w' hS => ?_, fun K hK => ?_⟩; (first | (obtain ⟨_, hS2⟩ := hS; simp only [Reg.CellsAt, and_true] at hS2; go_simp; rfl) | (go_simp; rfl) | rfl); go_simp; refine hK _ ?_; clear hK K))
      refine Reg.ord_alone rfl ?_ (fun K hK => ?_); (focus rfl)
      go_simp
      ((with_reducible refine (most_any _ _ _ _ _).mono ?_); rintro e14 w14 ⟨rfl, hb14⟩)
      have hS14 := hS13.keep hb14; clear hS13 hb14
      refine hK _ _ hS14 ?_; clear hK K
      repeat (first | (refine Reg.ord_skip rfl ?_ (fun K hK => ?_); (focus rfl); go_simp; refine hK _ ?_; clear hK K) | (refine Reg.ord_quiet rfl ?_ ?_; (focus rfl); apply Exists.intro; refine ⟨fun w' hS => ?_, fun K hK => ?_⟩; (first | (obtain ⟨_, hS2⟩ := hS; simp only [Reg.CellsAt, and_true] at hS2; go_simp; rfl) | (go_simp; rfl) | rfl); go_simp; refine hK _ ?_; clear hK K))
      refine Reg.ord_nil ?_
      go_wp2_with fail
      go_ret
      exact ⟨by simp, hS14.from hB6⟩
    · have hS1 := Reg.Held.start hc6; clear hc6
      go_wp2_with fail
      refine Reg.wp_region_ord [(false, 0), (false, 1), (false, 2), (false, 3), (false, 4), (false, 5), (false, 6), (false, 7), (false, 8), (false, 9), (false, 10), (false, 11), (false, 12), (false, 13), (false, 14), (false, 15), (false, 16), (false, 17), (false, 18), (false, 19), (false, 20), (false, 21), (false, 22), (false, 23), (true, 24), (false, 25), (false, 26), (false, 27), (false, 28), (false, 29), (true, 30), (false, 31), (false, 32), (false, 33), (false, 34), (false, 35), (false, 36), (false, 37), (true, 38), (true, 39), (false, 40), (false, 41), (false, 42), (false, 43), (false, 44), (false, 45), (false, 46), (true, 47), (true, 48), (false, 49), (false, 50), (false, 51)] (Reg.Held _ _) (by kernel_rfl) (by kernel_rfl) (fun d _ _ _ _ h => by cases d <;> exact h) hS1 ?_
      repeat (first | (refine Reg.ord_skip rfl ?_ (fun K hK => ?_); (focus rfl); go_simp; refine hK _ ?_; clear hK K) | (refine Reg.ord_quiet rfl ?_ ?_; (focus rfl); apply Exists.intro; refine ⟨fun w' hS => ?_, fun K hK => ?_⟩; (first | (obtain ⟨_, hS2⟩ := hS; simp only [Reg.CellsAt, and_true] at hS2; go_simp; rfl) | (go_simp; rfl) | rfl); go_simp; refine hK _ ?_; clear hK K))
      refine Reg.ord_alone rfl ?_ (fun K hK => ?_); (focus rfl)
      go_simp
      ((with_reducible refine (less_any _ _ _ _ _).mono ?_); rintro e9 w9 ⟨rfl, hb9⟩)
      have hS9 := hS1.keep hb9; clear hS1 hb9
      refine hK _ _ hS9 ?_; clear hK K
      repeat (first | (refine Reg.ord_skip rfl ?_ (fun K hK => ?_); (focus rfl); go_simp; refine hK _ ?_; clear hK K) | (refine Reg.ord_quiet rfl ?_ ?_; (focus rfl); apply Exists.intro; refine ⟨fun w' hS => ?_, fun K hK => ?_⟩; (first | (obtain ⟨_, hS2⟩ := hS; simp only [Reg.CellsAt, and_true] at hS2; go_simp; rfl) | (go_simp; rfl) | rfl); go_simp; refine hK _ ?_; clear hK K))
      refine Reg.ord_alone rfl ?_ (fun K hK => ?_); (focus rfl)
      go_simp
      ((with_reducible refine (less_any _ _ _ _ _).mono ?_); rintro e10 w10 ⟨rfl, hb10⟩)
      have hS10 := hS9.keep hb10; clear hS9 hb10
      refine hK _ _ hS10 ?_; clear hK K
      repeat (first | (refine Reg.ord_skip rfl ?_ (fun K hK => ?_); (focus rfl); go_simp; refine hK _ ?_; clear hK K) | (refine Reg.ord_quiet rfl ?_ ?_; (focus rfl); apply Exists.intro; refine ⟨fun w' hS => ?_, fun K hK => ?_⟩; (first | (obtain ⟨_, hS2⟩ := hS; simp only [Reg.CellsAt, and_true] at hS2; go_simp; rfl) | (go_simp; rfl) | rfl); go_simp; refine hK _ ?_; clear hK K))
      refine Reg.ord_alone rfl ?_ (fun K hK => ?_); (focus rfl)
      go_simp
      ((with_reducible refine (most_any _ _ _ _ _).mono ?_); rintro e11 w11 ⟨rfl, hb11⟩)
      have hS11 := hS10.keep hb11; clear hS10 hb11
      refine hK _ _ hS11 ?_; clear hK K
      repeat (first | (refine Reg.ord_skip rfl ?_ (fun K hK => ?_); (focus rfl); go_simp; refine hK _ ?_; clear hK K) | (refine Reg.ord_quiet rfl ?_ ?_; (focus rfl); apply Exists.intro; refine ⟨fun w' hS => ?_, fun K hK => ?_⟩; (first | (obtain ⟨_, hS2⟩ := hS; simp only [Reg.CellsAt, and_true] at hS2; go_simp; rfl) | (go_simp; rfl) | rfl); go_simp; refine hK _ ?_; clear hK K))
      refine Reg.ord_alone rfl ?_ (fun K hK => ?_); (focus rfl)
      go_simp
      ((with_reducible refine (most_any _ _ _ _ _).mono ?_); rintro e12 w12 ⟨rfl, hb12⟩)
      have hS12 := hS11.keep hb12; clear hS11 hb12
      refine hK _ _ hS12 ?_; clear hK K
      repeat (first | (refine Reg.ord_skip rfl ?_ (fun K hK => ?_); (focus rfl); go_simp; refine hK _ ?_; clear hK K) | (refine Reg.ord_quiet rfl ?_ ?_; (focus rfl); apply Exists.intro; refine ⟨fun w' hS => ?_, fun K hK => ?_⟩; (first | (obtain ⟨_, hS2⟩ := hS; simp only [Reg.CellsAt, and_true] at hS2; go_simp; rfl) | (go_simp; rfl) | rfl); go_simp; refine hK _ ?_; clear hK K))
      refine Reg.ord_alone rfl ?_ (fun K hK => ?_); (focus rfl)
      go_simp
      ((with_reducible refine (most_any _ _ _ _ _).mono ?_); rintro e13 w13 ⟨rfl, hb13⟩)
      have hS13 := hS12.keep hb13; clear hS12 hb13
      refine hK _ _ hS13 ?_; clear hK K
      repeat (first | (refine Reg.ord_skip rfl ?_ (fun K hK => ?_); (focus rfl); go_simp; refine hK _ ?_; clear hK K) | (refine Reg.ord_quiet rfl ?_ ?_; (focus rfl); apply Exists.intro; refine ⟨fun w' hS => ?_, fun K hK => ?_⟩; (first | (obtain ⟨_, hS2⟩ := hS; simp only [Reg.CellsAt, and_true] at hS2; go_simp; rfl) | (go_simp; rfl) | rfl); go_simp; refine hK _ ?_; clear hK K))
      refine Reg.ord_alone rfl ?_ (fun K hK => ?_); (focus rfl)
      go_simp
      ((with_reducible refine (most_any _ _ _ _ _).mono ?_); rintro e14 w14 ⟨rfl, hb14⟩)
      have hS14 := hS13.keep hb14; clear hS13 hb14
      refine hK _ _ hS14 ?_; clear hK K
      repeat (first | (refine Reg.ord_skip rfl ?_ (fun K hK => ?_); (focus rfl); go_simp; refine hK _ ?_; clear hK K) | (refine Reg.ord_quiet rfl ?_ ?_; (focus rfl); apply Exists.intro; refine ⟨fun w' hS => ?_, fun K hK => ?_⟩; (first | (obtain ⟨_, hS2⟩ := hS; simp only [Reg.CellsAt, and_true] at hS2; go_simp; rfl) | (go_simp; rfl) | rfl); go_simp; refine hK _ ?_; clear hK K))
      refine Reg.ord_nil ?_
      go_wp2_with fail
      go_ret
      exact ⟨by simp, hS14.from hB6⟩
    · have hS1 := Reg.Held.start hc6; clear hc6
      go_wp2_with fail
      refine Reg.wp_region_ord [(false, 0), (false, 1), (false, 2), (false, 3), (false, 4), (false, 5), (false, 6), (false, 7), (false, 8), (false, 9), (false, 10), (false, 11), (false, 12), (false, 13), (false, 14), (false, 15), (false, 16), (false, 17), (false, 18), (false, 19), (false, 20), (false, 21), (false, 22), (false, 23), (true, 24), (false, 25), (false, 26), (false, 27), (false, 28), (false, 29), (true, 30), (false, 31), (false, 32), (false, 33), (false, 34), (false, 35), (false, 36), (false, 37), (true, 38), (true, 39), (false, 40), (false, 41), (false, 42), (false, 43), (false, 44), (false, 45), (false, 46), (true, 47), (true, 48), (false, 49), (false, 50), (false, 51)] (Reg.Held _ _) (by kernel_rfl) (by kernel_rfl) (fun d _ _ _ _ h => by cases d <;> exact h) hS1 ?_
      repeat (first | (refine Reg.ord_skip rfl ?_ (fun K hK => ?_); (focus rfl); go_simp; refine hK _ ?_; clear hK K) | (refine Reg.ord_quiet rfl ?_ ?_; (focus rfl); apply Exists.intro; refine ⟨fun w' hS => ?_, fun K hK => ?_⟩; (first | (obtain ⟨_, hS2⟩ := hS; simp only [Reg.CellsAt, and_true] at hS2; go_simp; rfl) | (go_simp; rfl) | rfl); go_simp; refine hK _ ?_; clear hK K))
      refine Reg.ord_alone rfl ?_ (fun K hK => ?_); (focus rfl)
      go_simp
      ((with_reducible refine (most_any _ _ _ _ _).mono ?_); rintro e11 w11 ⟨rfl, hb11⟩)
      have hS11 := hS1.keep hb11; clear hS1 hb11
      refine hK _ _ hS11 ?_; clear hK K
      repeat (first | (refine Reg.ord_skip rfl ?_ (fun K hK => ?_); (focus rfl); go_simp; refine hK _ ?_; clear hK K) | (refine Reg.ord_quiet rfl ?_ ?_; (focus rfl); apply Exists.intro; refine ⟨fun w' hS => ?_, fun K hK => ?_⟩; (first | (obtain ⟨_, hS2⟩ := hS; simp only [Reg.CellsAt, and_true] at hS2; go_simp; rfl) | (go_simp; rfl) | rfl); go_simp; refine hK _ ?_; clear hK K))
      refine Reg.ord_alone rfl ?_ (fun K hK => ?_); (focus rfl)
      go_simp
      ((with_reducible refine (most_any _ _ _ _ _).mono ?_); rintro e12 w12 ⟨rfl, hb12⟩)
      have hS12 := hS11.keep hb12; clear hS11 hb12
      refine hK _ _ hS12 ?_; clear hK K
      repeat (first | (refine Reg.ord_skip rfl ?_ (fun K hK => ?_); (focus rfl); go_simp; refine hK _ ?_; clear hK K) | (refine Reg.ord_quiet rfl ?_ ?_; (focus rfl); apply Exists.intro; refine ⟨fun w' hS => ?_, fun K hK => ?_⟩; (first | (obtain ⟨_, hS2⟩ := hS; simp only [Reg.CellsAt, and_true] at hS2; go_simp; rfl) | (go_simp; rfl) | rfl); go_simp; refine hK _ ?_; clear hK K))
      refine Reg.ord_alone rfl ?_ (fun K hK => ?_); (focus rfl)
      go_simp
      ((with_reducible refine (most_any _ _ _ _ _).mono ?_); rintro e13 w13 ⟨rfl, hb13⟩)
      have hS13 := hS12.keep hb13; clear hS12 hb13
      refine hK _ _ hS13 ?_; clear hK K
      repeat (first | (refine Reg.ord_skip rfl ?_ (fun K hK => ?_); (focus rfl); go_simp; refine hK _ ?_; clear hK K) | (refine Reg.ord_quiet rfl ?_ ?_; (focus rfl); apply Exists.intro; refine ⟨fun w' hS => ?_, fun K hK => ?_⟩; (first | (obtain ⟨_, hS2⟩ := hS; simp only [Reg.CellsAt, and_true] at hS2; go_simp; rfl) | (go_simp; rfl) | rfl); go_simp; refine hK _ ?_; clear hK K))
      refine Reg.ord_alone rfl ?_ (fun K hK => ?_); (focus rfl)
      go_simp
      ((with_reducible refine (most_any _ _ _ _ _).mono ?_); rintro e14 w14 ⟨rfl, hb14⟩)
      have hS14 := hS13.keep hb14; clear hS13 hb14
      refine hK _ _ hS14 ?_; clear hK K
      repeat (first | (refine Reg.ord_skip rfl ?_ (fun K hK => ?_); (focus rfl); go_simp; refine hK _ ?_; clear hK K) | (refine Reg.ord_quiet rfl ?_ ?_; (focus rfl); apply Exists.intro; refine ⟨fun w' hS => ?_, fun K hK => ?_⟩; (first | (obtain ⟨_, hS2⟩ := hS; simp only [Reg.CellsAt, and_true] at hS2; go_simp; rfl) | (go_simp; rfl) | rfl); go_simp; refine hK _ ?_; clear hK K))
      refine Reg.ord_nil ?_
      go_wp2_with fail
      go_ret
      exact ⟨by simp, hS14.from hB6⟩
    · have hS1 := Reg.Held.start hc6; clear hc6
      go_wp2_with fail
      refine Reg.wp_region_ord [(false, 0), (false, 1), (false, 2), (false, 3), (false, 4), (false, 5), (false, 6), (false, 7), (false, 8), (false, 9), (false, 10), (false, 11), (false, 12), (false, 13), (false, 14), (false, 15), (false, 16), (false, 17), (false, 18), (false, 19), (false, 20), (false, 21), (false, 22), (false, 23), (true, 24), (false, 25), (false, 26), (false, 27), (false, 28), (false, 29), (true, 30), (false, 31), (false, 32), (false, 33), (false, 34), (false, 35), (false, 36), (false, 37), (true, 38), (true, 39), (false, 40), (false, 41), (false, 42), (false, 43), (false, 44), (false, 45), (false, 46), (true, 47), (true, 48), (false, 49), (false, 50), (false, 51)] (Reg.Held _ _) (by kernel_rfl) (by kernel_rfl) (fun d _ _ _ _ h => by cases d <;> exact h) hS1 ?_
      repeat (first | (refine Reg.ord_skip rfl ?_ (fun K hK => ?_); (focus rfl); go_simp; refine hK _ ?_; clear hK K) | (refine Reg.ord_quiet rfl ?_ ?_; (focus rfl); apply Exists.intro; refine ⟨fun w' hS => ?_, fun K hK => ?_⟩; (first | (obtain ⟨_, hS2⟩ := hS; simp only [Reg.CellsAt, and_true] at hS2; go_simp; rfl) | (go_simp; rfl) | rfl); go_simp; refine hK _ ?_; clear hK K))
      refine Reg.ord_alone rfl ?_ (fun K hK => ?_); (focus rfl)
      go_simp
      ((with_reducible refine (most_any _ _ _ _ _).mono ?_); rintro e11 w11 ⟨rfl, hb11⟩)
      have hS11 := hS1.keep hb11; clear hS1 hb11
      refine hK _ _ hS11 ?_; clear hK K
      repeat (first | (refine Reg.ord_skip rfl ?_ (fun K hK => ?_); (focus rfl); go_simp; refine hK _ ?_; clear hK K) | (refine Reg.ord_quiet rfl ?_ ?_; (focus rfl); apply Exists.intro; refine ⟨fun w' hS => ?_, fun K hK => ?_⟩; (first | (obtain ⟨_, hS2⟩ := hS; simp only [Reg.CellsAt, and_true] at hS2; go_simp; rfl) | (go_simp; rfl) | rfl); go_simp; refine hK _ ?_; clear hK K))
      refine Reg.ord_alone rfl ?_ (fun K hK => ?_); (focus rfl)
      go_simp
      ((with_reducible refine (most_any _ _ _ _ _).mono ?_); rintro e12 w12 ⟨rfl, hb12⟩)
      have hS12 := hS11.keep hb12; clear hS11 hb12
      refine hK _ _ hS12 ?_; clear hK K
      repeat (first | (refine Reg.ord_skip rfl ?_ (fun K hK => ?_); (focus rfl); go_simp; refine hK _ ?_; clear hK K) | (refine Reg.ord_quiet rfl ?_ ?_; (focus rfl); apply Exists.intro; refine ⟨fun w' hS => ?_, fun K hK => ?_⟩; (first | (obtain ⟨_, hS2⟩ := hS; simp only [Reg.CellsAt, and_true] at hS2; go_simp; rfl) | (go_simp; rfl) | rfl); go_simp; refine hK _ ?_; clear hK K))
      refine Reg.ord_alone rfl ?_ (fun K hK => ?_); (focus rfl)
      go_simp
      ((with_reducible refine (most_any _ _ _ _ _).mono ?_); rintro e13 w13 ⟨rfl, hb13⟩)
      have hS13 := hS12.keep hb13; clear hS12 hb13
      refine hK _ _ hS13 ?_; clear hK K
      repeat (first | (refine Reg.ord_skip rfl ?_ (fun K hK => ?_); (focus rfl); go_simp; refine hK _ ?_; clear hK K) | (refine Reg.ord_quiet rfl ?_ ?_; (focus rfl); apply Exists.intro; refine ⟨fun w' hS => ?_, fun K hK => ?_⟩; (first | (obtain ⟨_, hS2⟩ := hS; simp only [Reg.CellsAt, and_true] at hS2; go_simp; rfl) | (go_simp; rfl) | rfl); go_simp; refine hK _ ?_; clear hK K))
      refine Reg.ord_alone rfl ?_ (fun K hK => ?_); (focus rfl)
      go_simp
      ((with_reducible refine (most_any _ _ _ _ _).mono ?_); rintro e14 w14 ⟨rfl, hb14⟩)
      have hS14 := hS13.keep hb14; clear hS13 hb14
      refine hK _ _ hS14 ?_; clear hK K
      repeat (first | (refine Reg.ord_skip rfl ?_ (fun K hK => ?_); (focus rfl); go_simp; refine hK _ ?_; clear hK K) | (refine Reg.ord_quiet rfl ?_ ?_; (focus rfl); apply Exists.intro; refine ⟨fun w' hS => ?_, fun K hK => ?_⟩; (first | (obtain ⟨_, hS2⟩ := hS; simp only [Reg.CellsAt, and_true] at hS2; go_simp; rfl) | (go_simp; rfl) | rfl); go_simp; refine hK _ ?_; clear hK K))
      refine Reg.ord_nil ?_
      go_wp2_with fail
      go_ret
      exact ⟨by simp, hS14.from hB6⟩
end Go.Proofs.Ytjlohcacpjpdbaa.Bal
