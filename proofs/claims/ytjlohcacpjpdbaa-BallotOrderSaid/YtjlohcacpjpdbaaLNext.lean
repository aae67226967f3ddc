/- A next ballot is greater than what it is next to, and than all of lesser numbers; unlike nodes never have the same one: the walk of the law. -/
import Derived.Test.YtjlohcacpjpdbaaBalEq
set_option linter.unusedVariables false
set_option linter.unusedSimpArgs false
namespace Go.Proofs.Ytjlohcacpjpdbaa.Bal
open Go.RowKit Go.WideShapes
open Go.Proofs.Ytjlohcacpjpdbaa Go.Proofs.Ytjlohcacpjpdbaa.Base Go.Proofs.Ytjlohcacpjpdbaa.Read
theorem less_next {n d : Int} (e : Int) (h : validB n d = true) : lessB n d (wrap64 (n + 1)) e = true := by
  have h1 : 0 ≤ n ∧ n ≤ 1099511627776 := by simp [validB] at h; omega
  have hw : wrap64 (n + 1) = n + 1 := by rw [wrap64]; omega
  unfold lessB
  rw [hw, if_neg (by omega)]
  simp; omega
theorem wrap_inj {n m d e : Int} (h : validB n d = true) (h' : validB m e = true) (he : wrap64 (n + 1) = wrap64 (m + 1)) : n = m := by
  have h1 : 0 ≤ n ∧ n ≤ 1099511627776 := by simp [validB] at h; omega
  have h2 : 0 ≤ m ∧ m ≤ 1099511627776 := by simp [validB] at h'; omega
  rw [wrap64, wrap64] at he; omega
theorem most_not_less1 (n d m e : Int) : lessB (mostB n d m e).1 (mostB n d m e).2 n d = false := by
  unfold mostB
  by_cases h : lessB n d m e = true
  · rw [if_pos h]
    unfold lessB at h ⊢
    by_cases e1 : n = m
    · subst e1; simp at h ⊢; omega
    · rw [if_neg e1] at h; rw [if_neg (fun x => e1 x.symm)]; simp at h ⊢; omega
  · rw [if_neg h]; simp [lessB]
theorem most_not_less2 (n d m e : Int) : lessB (mostB n d m e).1 (mostB n d m e).2 m e = false := by
  unfold mostB
  by_cases h : lessB n d m e = true
  · rw [if_pos h]; simp [lessB]
  · rw [if_neg h]; simpa using h
theorem most_one (n d m e : Int) : mostB n d m e = (n, d) ∨ mostB n d m e = (m, e) := by
  unfold mostB; split <;> simp
theorem most_comm (n d m e : Int) : mostB m e n d = mostB n d m e := by
  unfold mostB lessB
  by_cases h : n = m
  · subst h
    by_cases h1 : d < e
    · simp [h1, show ¬ e < d by omega]
    · by_cases h2 : e < d
      · simp [h1, h2]
      · have : d = e := by omega
        simp [this]
  · by_cases h1 : n < m
    · simp [h, h1, show ¬ m = n by omega, show ¬ m < n by omega]
    · simp [h, h1, show ¬ m = n by omega, show m < n by omega]
theorem cells2 {l : List (Addr × Value)} {W : World} (h : Reg.CellsAt l W) (a b : Value) (t : TypeId) : Reg.CellsAt ((⟨W.heap.size, 0, none⟩, a) :: (⟨W.heap.size, 1, none⟩, b) :: l) (W.alloc (.cells #[a, b] t)) :=
  ⟨by rw [World.cell?_alloc_at _ _ _ _ rfl]; rfl, by rw [World.cell?_alloc_at _ _ _ _ rfl]; rfl, h.keep (below_al' _ _)⟩
set_option maxRecDepth 100000 in
set_option maxHeartbeats 2000000 in
theorem walk_BallotNext {w : World} (x0 : Int × Int) (_f0 : True) (x1 : Int × Int) (_f1 : True) (a2 : Int) (_w2 : (Lit.int .i64 a2).wf = true) (a3 : Int) (_w3 : (Lit.int .i64 a3).wf = true) :
    Calls Try.prog 6 #[vBal x0, vBal x1, .int .i64 a2, .int .i64 a3] w fun e w' => e = .returned (.bool true) ∧ Below w.heap.size w w' := by
  obtain ⟨n, d⟩ := x0
  obtain ⟨m, e⟩ := x1
  clear _w2 _w3 _f0 _f1
  show Calls Try.prog 6 #[.agg #[.int .i64 n, .int .i64 d], .agg #[.int .i64 m, .int .i64 e], .int .i64 a2, .int .i64 a3] w _
  have hc0 : Reg.CellsAt [(⟨w.heap.size, 0, none⟩, .int .i64 n), (⟨w.heap.size, 1, none⟩, .int .i64 d), (⟨w.heap.size + 1, 0, none⟩, .int .i64 m), (⟨w.heap.size + 1, 1, none⟩, .int .i64 e)] ((w.alloc (.cells #[.int .i64 n, .int .i64 d] 23)).alloc (.cells #[.int .i64 m, .int .i64 e] 23)) := by
    simp [Reg.CellsAt, go_sem]
  cases va : validB n d
  · have HV := Lib.hid va; clear va
    go_enter Try.func6, Try.ntmps6
    go_wp2_with fail
    ((with_reducible refine (works_any _).mono ?_); rintro e1 w1 ⟨rfl, hb1⟩)
    have hc1 := hc0.keep hb1
    have hx := hc1; simp only [Reg.CellsAt, and_true] at hx
    go_wp2_with fail
    ((with_reducible refine (valid_any n d _).mono ?_); rintro e2 w2 ⟨rfl, hb2⟩)
    rw [HV.out]
    go_wp2_with fail
    go_ret
    exact ⟨rfl, below_more (by repeat (first | exact Below.refl _ _ | exact below_al' _ _ | apply below_al | apply Below.drew)) (below_more hb1 hb2)⟩
  cases vb : validB m e
  · have HV := Lib.hid va; clear va
    have HV2 := Lib.hid vb; clear vb
    go_enter Try.func6, Try.ntmps6
    go_wp2_with fail
    ((with_reducible refine (works_any _).mono ?_); rintro e1 w1 ⟨rfl, hb1⟩)
    have hc1 := hc0.keep hb1
    have hx := hc1; simp only [Reg.CellsAt, and_true] at hx
    go_wp2_with fail
    ((with_reducible refine (valid_any n d _).mono ?_); rintro e2 w2 ⟨rfl, hb2⟩)
    rw [HV.out]
    have hc2 := hc1.keep hb2
    clear hx
    have hx := hc2; simp only [Reg.CellsAt, and_true] at hx
    go_wp2_with fail
    ((with_reducible refine (valid_any m e _).mono ?_); rintro e3 w3 ⟨rfl, hb3⟩)
    rw [HV2.out]
    go_wp2_with fail
    go_ret
    exact ⟨rfl, below_more (by repeat (first | exact Below.refl _ _ | exact below_al' _ _ | apply below_al | apply Below.drew)) (below_more hb1 (below_more hb2 hb3))⟩
  have HV := Lib.hid va
  have HV2 := Lib.hid vb
  have h1 := less_next a2 va
  have h2 : ((a2 == a3) || (!(wrap64 (n + 1) == wrap64 (m + 1)) || !(a2 == a3))) = true := by cases (a2 == a3) <;> simp
  have h3 := most_not_less1 n d m e
  have h4 := most_not_less2 n d m e
  have h5 := most_comm n d m e
  clear va vb
  go_enter Try.func6, Try.ntmps6
  go_wp2_with fail
  ((with_reducible refine (works_any _).mono ?_); rintro e1 w1 ⟨rfl, hb1⟩)
  have hc1 := hc0.keep hb1
  have hB1 : Below w.heap.size w w1 := below_more (by repeat (first | exact Below.refl _ _ | exact below_al' _ _ | apply below_al | apply Below.drew)) hb1
  clear hc0 hb1
  have hx := hc1; simp only [Reg.CellsAt, and_true] at hx
  go_wp2_with fail
  ((with_reducible refine (valid_any n d _).mono ?_); rintro e2 w2 ⟨rfl, hb2⟩)
  rw [HV.out]
  have hc2 := hc1.keep hb2
  have hB2 := below_more hB1 hb2
  clear hx hc1 hB1 hb2
  have hx := hc2; simp only [Reg.CellsAt, and_true] at hx
  go_wp2_with fail
  ((with_reducible refine (valid_any m e _).mono ?_); rintro e3 w3 ⟨rfl, hb3⟩)
  rw [HV2.out]
  have hc3 := hc2.keep hb3
  have hB3 := below_more hB2 hb3
  clear hx hc2 hB2 hb3
  have hx := hc3; simp only [Reg.CellsAt, and_true] at hx
  go_wp2_with fail
  ((with_reducible refine (next_any n d a2 _).mono ?_); rintro e4 w4 ⟨rfl, hb4⟩)
  have hc4 := cells2 (hc3.keep hb4) (.int .i64 (wrap64 (n + 1))) (.int .i64 a2) 23
  have hB4 := below_al (below_more hB3 hb4) (.cells #[.int .i64 (wrap64 (n + 1)), .int .i64 a2] 23)
  clear hx hc3 hB3 hb4
  have hx := hc4; simp only [Reg.CellsAt, and_true] at hx
  go_wp2_with fail
  ((with_reducible refine (next_any m e a3 _).mono ?_); rintro e5 w5 ⟨rfl, hb5⟩)
  have hc5 := cells2 (hc4.keep hb5) (.int .i64 (wrap64 (m + 1))) (.int .i64 a3) 23
  have hB5 := below_al (below_more hB4 hb5) (.cells #[.int .i64 (wrap64 (m + 1)), .int .i64 a3] 23)
  clear hx hc4 hB4 hb5
  have hx := hc5; simp only [Reg.CellsAt, and_true] at hx
  go_wp2_with fail
  ((with_reducible refine (most_any n d m e _).mono ?_); rintro e6 w6 ⟨rfl, hb6⟩)
  have hc6 := cells2 (hc5.keep hb6) (.int .i64 (mostB n d m e).1) (.int .i64 (mostB n d m e).2) 23
  have hB6 := below_al (below_more hB5 hb6) (.cells #[.int .i64 (mostB n d m e).1, .int .i64 (mostB n d m e).2] 23)
  clear hx hc5 hB5 hb6
  go_wp2_with fail
  have HM : ∃ p q : Int, mostB n d m e = (p, q) ∧ ∃ r1 : Bool, ((p == n) && (q == d)) = r1 ∧ (r1 = false → ((p == m) && (q == e)) = true) := by
    rcases most_one n d m e with h | h
    · exact ⟨n, d, h, true, by simp, fun h => by cases h⟩
    · exact ⟨m, e, h, _, rfl, fun _ => by simp⟩
  obtain ⟨p, q, hpq, r1, hr1, hr2⟩ := HM
  rw [hpq] at h3 h4 h5 hc6 hB6 ⊢
  simp only at h3 h4 h5 hc6 hB6 ⊢
  have HR2 := Lib.hid hr2; clear hr2 hpq
  generalize w6.alloc (.cells #[.int .i64 p, .int .i64 q] 23) = W at hc6 hB6
  generalize wrap64 (n + 1) = n1 at *
  generalize wrap64 (m + 1) = m1 at *
  have hS1 := Reg.Held.start hc6; clear hc6
  have heq := eql_bal
  have hne := neq_bal
  cases hq : (a2 == a3) <;> cases r1
  · have hr2 := HR2.out rfl
    refine Reg.wp_region_ord [(false, 0), (false, 1), (false, 2), (false, 3), (true, 4), (false, 5), (false, 6), (false, 7), (false, 8), (false, 9), (false, 10), (false, 11), (false, 12), (false, 13), (false, 14), (false, 15), (false, 16), (false, 17), (false, 18), (true, 19), (false, 20), (false, 21), (false, 22), (false, 23), (false, 24), (true, 25), (false, 26), (false, 27), (false, 28), (false, 29), (false, 30), (false, 31), (false, 32), (false, 33), (false, 34), (false, 35), (false, 36), (false, 37), (false, 38), (false, 39), (false, 40), (false, 42), (true, 41), (false, 43), (false, 44), (false, 45)] (Reg.Held W _) (by kernel_rfl) (by kernel_rfl) (fun d _ _ _ _ h => by cases d <;> exact h) hS1 ?_
    generalize W.drew = W0 at hS1
    repeat (first | (refine Reg.ord_skip rfl ?_ (fun K hK => ?_); (focus rfl); go_simp; refine hK _ ?_; clear hK K) | (refine Reg.ord_quiet rfl ?_ ?_; (focus rfl); apply Exists.intro; refine ⟨fun w' hS => ?_, fun K hK => ?_⟩; (first | (obtain ⟨_, hS2⟩ := hS; simp only [Reg.CellsAt, and_true] at hS2; go_simp; rfl) | (go_simp; rfl) | rfl); go_simp; refine hK _ ?_; clear hK K))
    refine Reg.ord_alone rfl ?_ (fun K hK => ?_); (focus rfl)
    go_simp
    ((with_reducible refine (less_any _ _ _ _ _).mono ?_); rintro e7 w7 ⟨rfl, hb7⟩)
    have hS7 := hS1.keep hb7; clear hS1 hb7
    refine hK _ _ hS7 ?_; clear hK K
    repeat (first | (refine Reg.ord_skip rfl ?_ (fun K hK => ?_); (focus rfl); go_simp; refine hK _ ?_; clear hK K) | (refine Reg.ord_quiet rfl ?_ ?_; (focus rfl); apply Exists.intro; refine ⟨fun w' hS => ?_, fun K hK => ?_⟩; (first | (obtain ⟨_, hS2⟩ := hS; simp only [Reg.CellsAt, and_true] at hS2; go_simp; rfl) | (go_simp; rfl) | rfl); go_simp; refine hK _ ?_; clear hK K))
    refine Reg.ord_alone rfl ?_ (fun K hK => ?_); (focus rfl)
    go_simp
    ((with_reducible refine (less_any _ _ _ _ _).mono ?_); rintro e8 w8 ⟨rfl, hb8⟩)
    have hS8 := hS7.keep hb8; clear hS7 hb8
    refine hK _ _ hS8 ?_; clear hK K
    repeat (first | (refine Reg.ord_skip rfl ?_ (fun K hK => ?_); (focus rfl); go_simp; refine hK _ ?_; clear hK K) | (refine Reg.ord_quiet rfl ?_ ?_; (focus rfl); apply Exists.intro; refine ⟨fun w' hS => ?_, fun K hK => ?_⟩; (first | (obtain ⟨_, hS2⟩ := hS; simp only [Reg.CellsAt, and_true] at hS2; go_simp; rfl) | (go_simp; rfl) | rfl); go_simp; refine hK _ ?_; clear hK K))
    refine Reg.ord_alone rfl ?_ (fun K hK => ?_); (focus rfl)
    go_simp
    ((with_reducible refine (less_any _ _ _ _ _).mono ?_); rintro e9 w9 ⟨rfl, hb9⟩)
    have hS9 := hS8.keep hb9; clear hS8 hb9
    refine hK _ _ hS9 ?_; clear hK K
    repeat (first | (refine Reg.ord_skip rfl ?_ (fun K hK => ?_); (focus rfl); go_simp; refine hK _ ?_; clear hK K) | (refine Reg.ord_quiet rfl ?_ ?_; (focus rfl); apply Exists.intro; refine ⟨fun w' hS => ?_, fun K hK => ?_⟩; (first | (obtain ⟨_, hS2⟩ := hS; simp only [Reg.CellsAt, and_true] at hS2; go_simp; rfl) | (go_simp; rfl) | rfl); go_simp; refine hK _ ?_; clear hK K))
    refine Reg.ord_alone rfl ?_ (fun K hK => ?_); (focus rfl)
    go_simp
    ((with_reducible refine (most_any _ _ _ _ _).mono ?_); rintro e10 w10 ⟨rfl, hb10⟩)
    have hS10 := hS9.keep hb10; clear hS9 hb10
    refine hK _ _ hS10 ?_; clear hK K
    repeat (first | (refine Reg.ord_skip rfl ?_ (fun K hK => ?_); (focus rfl); go_simp; refine hK _ ?_; clear hK K) | (refine Reg.ord_quiet rfl ?_ ?_; (focus rfl); apply Exists.intro; refine ⟨fun w' hS => ?_, fun K hK => ?_⟩; (first | (obtain ⟨_, hS2⟩ := hS; simp only [Reg.CellsAt, and_true] at hS2; go_simp; rfl) | (go_simp; rfl) | rfl); go_simp; refine hK _ ?_; clear hK K))
    refine Reg.ord_nil ?_
    go_wp2_with fail
    go_ret
    exact ⟨by simp, hS10.from hB6⟩
  · refine Reg.wp_region_ord [(false, 0), (false, 1), (false, 2), (false, 3), (true, 4), (false, 5), (false, 6), (false, 7), (false, 8), (false, 9), (false, 10), (false, 11), (false, 12), (false, 13), (false, 14), (false, 15), (false, 16), (false, 17), (false, 18), (true, 19), (false, 20), (false, 21), (false, 22), (false, 23), (false, 24), (true, 25), (false, 26), (false, 27), (false, 28), (false, 29), (false, 30), (false, 31), (false, 32), (false, 33), (false, 34), (false, 35), (false, 36), (false, 37), (false, 38), (false, 39), (false, 40), (false, 42), (true, 41), (false, 43), (false, 44), (false, 45)] (Reg.Held W _) (by kernel_rfl) (by kernel_rfl) (fun d _ _ _ _ h => by cases d <;> exact h) hS1 ?_
    generalize W.drew = W0 at hS1
    repeat (first | (refine Reg.ord_skip rfl ?_ (fun K hK => ?_); (focus rfl); go_simp; refine hK _ ?_; clear hK K) | (refine Reg.ord_quiet rfl ?_ ?_; (focus rfl); apply Exists.intro; refine ⟨fun w' hS => ?_, fun K hK => ?_⟩; (first | (obtain ⟨_, hS2⟩ := hS; simp only [Reg.CellsAt, and_true] at hS2; go_simp; rfl) | (go_simp; rfl) | rfl); go_simp; refine hK _ ?_; clear hK K))
    refine Reg.ord_alone rfl ?_ (fun K hK => ?_); (focus rfl)
    go_simp
    ((with_reducible refine (less_any _ _ _ _ _).mono ?_); rintro e7 w7 ⟨rfl, hb7⟩)
    have hS7 := hS1.keep hb7; clear hS1 hb7
    refine hK _ _ hS7 ?_; clear hK K
    repeat (first | (refine Reg.ord_skip rfl ?_ (fun K hK => ?_); (focus rfl); go_simp; refine hK _ ?_; clear hK K) | (refine Reg.ord_quiet rfl ?_ ?_; (focus rfl); apply Exists.intro; refine ⟨fun w' hS => ?_, fun K hK => ?_⟩; (first | (obtain ⟨_, hS2⟩ := hS; simp only [Reg.CellsAt, and_true] at hS2; go_simp; rfl) | (go_simp; rfl) | rfl); go_simp; refine hK _ ?_; clear hK K))
    refine Reg.ord_alone rfl ?_ (fun K hK => ?_); (focus rfl)
    go_simp
    ((with_reducible refine (less_any _ _ _ _ _).mono ?_); rintro e8 w8 ⟨rfl, hb8⟩)
    have hS8 := hS7.keep hb8; clear hS7 hb8
    refine hK _ _ hS8 ?_; clear hK K
    repeat (first | (refine Reg.ord_skip rfl ?_ (fun K hK => ?_); (focus rfl); go_simp; refine hK _ ?_; clear hK K) | (refine Reg.ord_quiet rfl ?_ ?_; (focus rfl); apply Exists.intro; refine ⟨fun w' hS => ?_, fun K hK => ?_⟩; (first | (obtain ⟨_, hS2⟩ := hS; simp only [Reg.CellsAt, and_true] at hS2; go_simp; rfl) | (go_simp; rfl) | rfl); go_simp; refine hK _ ?_; clear hK K))
    refine Reg.ord_alone rfl ?_ (fun K hK => ?_); (focus rfl)
    go_simp
    ((with_reducible refine (less_any _ _ _ _ _).mono ?_); rintro e9 w9 ⟨rfl, hb9⟩)
    have hS9 := hS8.keep hb9; clear hS8 hb9
    refine hK _ _ hS9 ?_; clear hK K
    repeat (first | (refine Reg.ord_skip rfl ?_ (fun K hK => ?_); (focus rfl); go_simp; refine hK _ ?_; clear hK K) | (refine Reg.ord_quiet rfl ?_ ?_; (focus rfl); apply Exists.intro; refine ⟨fun w' hS => ?_, fun K hK => ?_⟩; (first | (obtain ⟨_, hS2⟩ := hS; simp only [Reg.CellsAt, and_true] at hS2; go_simp; rfl) | (go_simp; rfl) | rfl); go_simp; refine hK _ ?_; clear hK K))
    refine Reg.ord_alone rfl ?_ (fun K hK => ?_); (focus rfl)
    go_simp
    ((with_reducible refine (most_any _ _ _ _ _).mono ?_); rintro e10 w10 ⟨rfl, hb10⟩)
    have hS10 := hS9.keep hb10; clear hS9 hb10
    refine hK _ _ hS10 ?_; clear hK K
    repeat (first | (refine Reg.ord_skip rfl ?_ (fun K hK => ?_); (focus rfl); go_simp; refine hK _ ?_; clear hK K) | (refine Reg.ord_quiet rfl ?_ ?_; (focus rfl); apply Exists.intro; refine ⟨fun w' hS => ?_, fun K hK => ?_⟩; (first | (obtain ⟨_, hS2⟩ := hS; simp only [Reg.CellsAt, and_true] at hS2; go_simp; rfl) | (go_simp; rfl) | rfl); go_simp; refine hK _ ?_; clear hK K))
    refine Reg.ord_nil ?_
    go_wp2_with fail
    go_ret
    exact ⟨by simp, hS10.from hB6⟩
  · have hr2 := HR2.out rfl
    refine Reg.wp_region_ord [(false, 0), (false, 1), (false, 2), (false, 3), (true, 4), (false, 5), (false, 6), (false, 7), (false, 8), (false, 9), (false, 10), (false, 11), (false, 12), (false, 13), (false, 14), (false, 15), (false, 16), (false, 17), (false, 18), (true, 19), (false, 20), (false, 21), (false, 22), (false, 23), (false, 24), (true, 25), (false, 26), (false, 27), (false, 28), (false, 29), (false, 30), (false, 31), (false, 32), (false, 33), (false, 34), (false, 35), (false, 36), (false, 37), (false, 38), (false, 39), (false, 40), (false, 42), (true, 41), (false, 43), (false, 44), (false, 45)] (Reg.Held W _) (by kernel_rfl) (by kernel_rfl) (fun d _ _ _ _ h => by cases d <;> exact h) hS1 ?_
    generalize W.drew = W0 at hS1
    repeat (first | (refine Reg.ord_skip rfl ?_ (fun K hK => ?_); (focus rfl); go_simp; refine hK _ ?_; clear hK K) | (refine Reg.ord_quiet rfl ?_ ?_; (focus rfl); apply Exists.intro; refine ⟨fun w' hS => ?_, fun K hK => ?_⟩; (first | (obtain ⟨_, hS2⟩ := hS; simp only [Reg.CellsAt, and_true] at hS2; go_simp; rfl) | (go_simp; rfl) | rfl); go_simp; refine hK _ ?_; clear hK K))
    refine Reg.ord_alone rfl ?_ (fun K hK => ?_); (focus rfl)
    go_simp
    ((with_reducible refine (less_any _ _ _ _ _).mono ?_); rintro e7 w7 ⟨rfl, hb7⟩)
    have hS7 := hS1.keep hb7; clear hS1 hb7
    refine hK _ _ hS7 ?_; clear hK K
    repeat (first | (refine Reg.ord_skip rfl ?_ (fun K hK => ?_); (focus rfl); go_simp; refine hK _ ?_; clear hK K) | (refine Reg.ord_quiet rfl ?_ ?_; (focus rfl); apply Exists.intro; refine ⟨fun w' hS => ?_, fun K hK => ?_⟩; (first | (obtain ⟨_, hS2⟩ := hS; simp only [Reg.CellsAt, and_true] at hS2; go_simp; rfl) | (go_simp; rfl) | rfl); go_simp; refine hK _ ?_; clear hK K))
    refine Reg.ord_alone rfl ?_ (fun K hK => ?_); (focus rfl)
    go_simp
    ((with_reducible refine (less_any _ _ _ _ _).mono ?_); rintro e8 w8 ⟨rfl, hb8⟩)
    have hS8 := hS7.keep hb8; clear hS7 hb8
    refine hK _ _ hS8 ?_; clear hK K
    repeat (first | (refine Reg.ord_skip rfl ?_ (fun K hK => ?_); (focus rfl); go_simp; refine hK _ ?_; clear hK K) | (refine Reg.ord_quiet rfl ?_ ?_; (focus rfl); apply Exists.intro; refine ⟨fun w' hS => ?_, fun K hK => ?_⟩; (first | (obtain ⟨_, hS2⟩ := hS; simp only [Reg.CellsAt, and_true] at hS2; go_simp; rfl) | (go_simp; rfl) | rfl); go_simp; refine hK _ ?_; clear hK K))
    refine Reg.ord_alone rfl ?_ (fun K hK => ?_); (focus rfl)
    go_simp
    ((with_reducible refine (less_any _ _ _ _ _).mono ?_); rintro e9 w9 ⟨rfl, hb9⟩)
    have hS9 := hS8.keep hb9; clear hS8 hb9
    refine hK _ _ hS9 ?_; clear hK K
    repeat (first | (refine Reg.ord_skip rfl ?_ (fun K hK => ?_); (focus rfl); go_simp; refine hK _ ?_; clear hK K) | (refine Reg.ord_quiet rfl ?_ ?_; (focus rfl); apply Exists.intro; refine ⟨fun w' hS => ?_, fun K hK => ?_⟩; (first | (obtain ⟨_, hS2⟩ := hS; simp only [Reg.CellsAt, and_true] at hS2; go_simp; rfl) | (go_simp; rfl) | rfl); go_simp; refine hK _ ?_; clear hK K))
    refine Reg.ord_alone rfl ?_ (fun K hK => ?_); (focus rfl)
    go_simp
    ((with_reducible refine (most_any _ _ _ _ _).mono ?_); rintro e10 w10 ⟨rfl, hb10⟩)
    have hS10 := hS9.keep hb10; clear hS9 hb10
    refine hK _ _ hS10 ?_; clear hK K
    repeat (first | (refine Reg.ord_skip rfl ?_ (fun K hK => ?_); (focus rfl); go_simp; refine hK _ ?_; clear hK K) | (refine Reg.ord_quiet rfl ?_ ?_; (focus rfl); apply Exists.intro; refine ⟨fun w' hS => ?_, fun K hK => ?_⟩; (first | (obtain ⟨_, hS2⟩ := hS; simp only [Reg.CellsAt, and_true] at hS2; go_simp; rfl) | (go_simp; rfl) | rfl); go_simp; refine hK _ ?_; clear hK K))
    refine Reg.ord_nil ?_
    go_wp2_with fail
    go_ret
    exact ⟨by simp, hS10.from hB6⟩
  · refine Reg.wp_region_ord [(false, 0), (false, 1), (false, 2), (false, 3), (true, 4), (false, 5), (false, 6), (false, 7), (false, 8), (false, 9), (false, 10), (false, 11), (false, 12), (false, 13), (false, 14), (false, 15), (false, 16), (false, 17), (false, 18), (true, 19), (false, 20), (false, 21), (false, 22), (false, 23), (false, 24), (true, 25), (false, 26), (false, 27), (false, 28), (false, 29), (false, 30), (false, 31), (false, 32), (false, 33), (false, 34), (false, 35), (false, 36), (false, 37), (false, 38), (false, 39), (false, 40), (false, 42), (true, 41), (false, 43), (false, 44), (false, 45)] (Reg.Held W _) (by kernel_rfl) (by kernel_rfl) (fun d _ _ _ _ h => by cases d <;> exact h) hS1 ?_
    generalize W.drew = W0 at hS1
    repeat (first | (refine Reg.ord_skip rfl ?_ (fun K hK => ?_); (focus rfl); go_simp; refine hK _ ?_; clear hK K) | (refine Reg.ord_quiet rfl ?_ ?_; (focus rfl); apply Exists.intro; refine ⟨fun w' hS => ?_, fun K hK => ?_⟩; (first | (obtain ⟨_, hS2⟩ := hS; simp only [Reg.CellsAt, and_true] at hS2; go_simp; rfl) | (go_simp; rfl) | rfl); go_simp; refine hK _ ?_; clear hK K))
    refine Reg.ord_alone rfl ?_ (fun K hK => ?_); (focus rfl)
    go_simp
    ((with_reducible refine (less_any _ _ _ _ _).mono ?_); rintro e7 w7 ⟨rfl, hb7⟩)
    have hS7 := hS1.keep hb7; clear hS1 hb7
    refine hK _ _ hS7 ?_; clear hK K
    repeat (first | (refine Reg.ord_skip rfl ?_ (fun K hK => ?_); (focus rfl); go_simp; refine hK _ ?_; clear hK K) | (refine Reg.ord_quiet rfl ?_ ?_; (focus rfl); apply Exists.intro; refine ⟨fun w' hS => ?_, fun K hK => ?_⟩; (first | (obtain ⟨_, hS2⟩ := hS; simp only [Reg.CellsAt, and_true] at hS2; go_simp; rfl) | (go_simp; rfl) | rfl); go_simp; refine hK _ ?_; clear hK K))
    refine Reg.ord_alone rfl ?_ (fun K hK => ?_); (focus rfl)
    go_simp
    ((with_reducible refine (less_any _ _ _ _ _).mono ?_); rintro e8 w8 ⟨rfl, hb8⟩)
    have hS8 := hS7.keep hb8; clear hS7 hb8
    refine hK _ _ hS8 ?_; clear hK K
    repeat (first | (refine Reg.ord_skip rfl ?_ (fun K hK => ?_); (focus rfl); go_simp; refine hK _ ?_; clear hK K) | (refine Reg.ord_quiet rfl ?_ ?_; (focus rfl); apply Exists.intro; refine ⟨fun w' hS => ?_, fun K hK => ?_⟩; (first | (obtain ⟨_, hS2⟩ := hS; simp only [Reg.CellsAt, and_true] at hS2; go_simp; rfl) | (go_simp; rfl) | rfl); go_simp; refine hK _ ?_; clear hK K))
    refine Reg.ord_alone rfl ?_ (fun K hK => ?_); (focus rfl)
    go_simp
    ((with_reducible refine (less_any _ _ _ _ _).mono ?_); rintro e9 w9 ⟨rfl, hb9⟩)
    have hS9 := hS8.keep hb9; clear hS8 hb9
    refine hK _ _ hS9 ?_; clear hK K
    repeat (first | (refine Reg.ord_skip rfl ?_ (fun K hK => ?_); (focus rfl); go_simp; refine hK _ ?_; clear hK K) | (refine Reg.ord_quiet rfl ?_ ?_; (focus rfl); apply Exists.intro; refine ⟨fun w' hS => ?_, fun K hK => ?_⟩; (first | (obtain ⟨_, hS2⟩ := hS; simp only [Reg.CellsAt, and_true] at hS2; go_simp; rfl) | (go_simp; rfl) | rfl); go_simp; refine hK _ ?_; clear hK K))
    refine Reg.ord_alone rfl ?_ (fun K hK => ?_); (focus rfl)
    go_simp
    ((with_reducible refine (most_any _ _ _ _ _).mono ?_); rintro e10 w10 ⟨rfl, hb10⟩)
    have hS10 := hS9.keep hb10; clear hS9 hb10
    refine hK _ _ hS10 ?_; clear hK K
    repeat (first | (refine Reg.ord_skip rfl ?_ (fun K hK => ?_); (focus rfl); go_simp; refine hK _ ?_; clear hK K) | (refine Reg.ord_quiet rfl ?_ ?_; (focus rfl); apply Exists.intro; refine ⟨fun w' hS => ?_, fun K hK => ?_⟩; (first | (obtain ⟨_, hS2⟩ := hS; simp only [Reg.CellsAt, and_true] at hS2; go_simp; rfl) | (go_simp; rfl) | rfl); go_simp; refine hK _ ?_; clear hK K))
    refine Reg.ord_nil ?_
    go_wp2_with fail
    go_ret
    exact ⟨by simp, hS10.from hB6⟩
end Go.Proofs.Ytjlohcacpjpdbaa.Bal
