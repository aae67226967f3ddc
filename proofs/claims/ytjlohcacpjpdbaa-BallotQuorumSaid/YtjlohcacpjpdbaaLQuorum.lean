/- Of a number, more than half are enough, fewer are not; who is enough stays enough when another comes: the walk of the law. -/
import Derived.Test.YtjlohcacpjpdbaaQuoF
set_option linter.unusedVariables false
set_option linter.unusedSimpArgs false
namespace Go.Proofs.Ytjlohcacpjpdbaa.BalQ
open Go.RowKit Go.WideShapes
open Go.Proofs.Ytjlohcacpjpdbaa Go.Proofs.Ytjlohcacpjpdbaa.Base Go.Proofs.Ytjlohcacpjpdbaa.Read Go.Proofs.Ytjlohcacpjpdbaa.Bal
set_option maxRecDepth 100000 in
set_option maxHeartbeats 8000000 in
theorem walk_BallotQuorum {w : World} (a0 : Int) (_w0 : (Lit.int .i64 a0).wf = true) (x1 : Int × Ints) (f1 : IntsAt w x1.2) (x2 : Ints) (f2 : RowAt w x2) (a3 : Int) (w3 : (Lit.int .i64 a3).wf = true) :
    Calls Try.prog 7 #[.int .i64 a0, vCf x1, vSl x2, .int .i64 a3] w fun e w' => e = .returned (.bool true) ∧ Below w.heap.size w w' := by
  obtain ⟨ep, A, c, l⟩ := x1
  obtain ⟨B, d, who⟩ := x2
  obtain ⟨f2, hz2⟩ := f2
  obtain ⟨n, hn⟩ : ∃ n, n = l.length := ⟨_, rfl⟩
  obtain ⟨m, hm⟩ : ∃ m, m = who.length := ⟨_, rfl⟩
  show Calls Try.prog 7 #[.int .i64 a0, .agg #[.int .i64 ep, .slice A l.length c], .slice B who.length d, .int .i64 a3] w _
  rw [← hn, ← hm]
  have HN := Lib.hid hn.symm; have HM := Lib.hid hm.symm
  replace f1 : Row 1 (rInt .i64) w A l := f1
  replace f2 : Row 1 (rInt .i64) w B who := f2
  replace hz2 : B = none → d = 0 := hz2
  clear _w0 hn hm
  by_cases h0 : a0 < 1
  · go_enter Try.func7, Try.ntmps7
    go_wp2_with (go_at_call 9; refine (works_any _).mono ?_; rintro e w1 ⟨rfl, hb1⟩; obtain ⟨hcW, hfW⟩ := bcell hb1)
    go_ret
    exact ⟨rfl, below_more (by repeat (first | exact Below.refl _ _ | exact below_al' _ _ | apply below_al | apply Below.drew)) hb1⟩
  have hd0 : decide (a0 < 1) = false := by simpa using h0
  by_cases h1 : (100000 : Int) < a0
  · clear h0
    go_enter Try.func7, Try.ntmps7
    go_wp2_with (go_at_call 9; refine (works_any _).mono ?_; rintro e w1 ⟨rfl, hb1⟩; obtain ⟨hcW, hfW⟩ := bcell hb1)
    go_ret
    exact ⟨rfl, below_more (by repeat (first | exact Below.refl _ _ | exact below_al' _ _ | apply below_al | apply Below.drew)) hb1⟩
  have hd1 : decide ((100000 : Int) < a0) = false := by simpa using h1
  by_cases h2 : (60 : Int) < (n : Int)
  · clear h0 h1
    go_enter Try.func7, Try.ntmps7
    go_wp2_with (go_at_call 9; refine (works_any _).mono ?_; rintro e w1 ⟨rfl, hb1⟩; obtain ⟨hcW, hfW⟩ := bcell hb1)
    go_ret
    exact ⟨rfl, below_more (by repeat (first | exact Below.refl _ _ | exact below_al' _ _ | apply below_al | apply Below.drew)) hb1⟩
  have hd2 : decide ((60 : Int) < (n : Int)) = false := by simpa using h2
  by_cases h3 : (60 : Int) < (m : Int)
  · clear h0 h1 h2
    go_enter Try.func7, Try.ntmps7
    go_wp2_with (go_at_call 9; refine (works_any _).mono ?_; rintro e w1 ⟨rfl, hb1⟩; obtain ⟨hcW, hfW⟩ := bcell hb1)
    go_ret
    exact ⟨rfl, below_more (by repeat (first | exact Below.refl _ _ | exact below_al' _ _ | apply below_al | apply Below.drew)) hb1⟩
  have hd3 : decide ((60 : Int) < (m : Int)) = false := by simpa using h3
  have H0 : Hid (n ≤ 60 ∧ m ≤ 60) := by show _ ∧ _; omega
  have ha0 : 1 ≤ a0 := by omega
  have ha1 : a0 ≤ 100000 := by omega
  clear h0 h1 h2 h3
  have hQ := quorum_of ha0
  have hc0 : Reg.CellsAt [(⟨w.heap.size, 0, none⟩, .int .i64 ep), (⟨w.heap.size, 1, none⟩, .slice A n c)] (w.alloc (.cells #[.int .i64 ep, .slice A n c] 35)) := by
    simp [Reg.CellsAt, go_sem]
  go_enter Try.func7, Try.ntmps7
  go_wp2_with (go_at_call 9; refine (works_any _).mono ?_; rintro e w1 ⟨rfl, hb1⟩; obtain ⟨hcW, hfW⟩ := bcell hb1)
  have hc1 := hc0.keep hb1
  have hB1 : Below w.heap.size w w1 := below_more (by repeat (first | exact Below.refl _ _ | exact below_al' _ _ | apply below_al | apply Below.drew)) hb1
  clear hc0 hb1 hcW hfW
  ((with_reducible refine (quorum_any _ (by omega) _).mono ?_); rintro e2 w2 ⟨rfl, rfl⟩)
  obtain ⟨k, hk⟩ : ∃ k, k = quorumN a0 := ⟨_, rfl⟩
  rw [← hk] at hQ ⊢
  clear hk
  obtain ⟨hk1, hk2, hk3, hk4⟩ := hQ
  have hd4 : decide (2 * k ≤ a0) = false := by simpa using hk3
  have hd5 : decide (a0 < 2 * (k - 1)) = false := by simpa using hk4
  have hd6 : decide (a0 < k) = false := by simpa using hk2
  have hk5 : k ≤ 100000 := by omega
  have hm60 : m ≤ 60 := H0.out.2
  have hml : 0 + m ≤ maxLen := by unfold maxLen; omega
  have hmb : (0 + m) * 8 ≤ 140737488355328 := by omega
  have hin := row_in (f2.below (stays_int _) hB1)
  have hyl : (who.map (Value.int .i64)).length = m * 1 := by rw [List.length_map, HM.out]; omega
  have hy1 : ∀ u ∈ who.map (Value.int .i64), u.oneCell' = true := by
    intro u hu
    obtain ⟨x, _, rfl⟩ := List.mem_map.1 hu
    rfl
  have hx := hc1; simp only [Reg.CellsAt, and_true] at hx
  go_wp2_with (refine App.append_row rfl _ _ _ rfl w1.heap.size _ (.int .i64 0) 1 8 Try.underlying33 (by kernel_rfl) rfl (by decide) (.slice none 0 0) 0 [] rfl (World.ownsRow_nil _ _ _ _) B m d (who.map (.int .i64)) rfl hyl hin hz2 hy1 hml hmb (Nat.le_refl _) ?_)
  intro v1 w4 ho1 hg1
  have hB4 := (Below.refl w1.heap.size w1).grown hg1 (Nat.le_refl _) (by intro k hk; cases hk)
  clear hin hyl hy1 hml hmb hg1 hx
  have hin2 : ∀ t fr, App.CellsIn (w4.alloc (.cells #[.int .i64 a3] t fr)) (some ⟨w4.heap.size, 0, none⟩) [.int .i64 a3] := by
    intro t fr _
    refine ⟨_, _, rfl, fun j hj => ?_⟩
    obtain rfl : j = 0 := by simpa using hj
    rw [cell_of_row _ _ _ _ _ _ (heap_alloc_new _ _)]
    rfl
  have hy1 : ∀ u ∈ [Value.int .i64 a3], u.oneCell' = true := by
    intro u hu
    obtain rfl := List.mem_singleton.1 hu
    rfl
  have hml : m + 1 ≤ maxLen := by unfold maxLen; omega
  have hmb : (m + 1) * 8 ≤ 140737488355328 := by omega
  have hB4s := hB4.size
  go_wp2_with (refine App.append_row rfl _ _ _ rfl w1.heap.size _ (.int .i64 0) 1 8 Try.underlying33 (by kernel_rfl) rfl (by decide) v1 m (who.map (.int .i64)) rfl (own_below ho1 (below_al' _ _)) (some ⟨w4.heap.size, 0, none⟩) 1 1 [.int .i64 a3] rfl rfl (hin2 _ _) (fun h => by cases h) hy1 hml hmb (Nat.le_trans hB4s (below_al' _ _).size) ?_)
  intro v2 w5 ho2 hg2
  have hB5 := (below_more hB4 (below_al' w4 _)).grown hg2 (Nat.le_trans hB4s (below_al' _ _).size) (own_from ho1)
  clear hin2 hml hmb hy1 hg2
  have hwf : ∀ x ∈ who ++ [a3], (Lit.int .i64 x).wf = true := by
    intro x hx
    rcases List.mem_append.1 hx with h | h
    · exact row_wf f2 x h
    · rw [List.mem_singleton.1 h]; exact w3
  obtain ⟨A2, c2, rfl, f3⟩ := own_row (l := who ++ [a3]) (by simpa using ho2) (by omega) hwf
  clear ho1 ho2 hwf w3 hz2
  have hc5 := hc1.keep hB5
  have hB6 := below_more hB1 hB5
  have HM2 : Hid ((who ++ [a3]).length = m + 1) := by show _ = _; simp [HM.out]
  clear hc1 hB5 hB4 hB4s hB1
  have hx := hc5; simp only [Reg.CellsAt, and_true] at hx
  go_wp2_with fail
  ((with_reducible refine (in_any A n c l HN.out a3 _ (f1.below (stays_int _) hB6)).mono ?_); rintro e6 w6 ⟨rfl, rfl⟩)
  have F1 := enough_more l who a3
  have F2 := enough_same l who a3
  have F3 := all_enough l who
  have F4 := enough_self l
  have hE1 : ∃ b, enoughB l who = b := ⟨_, rfl⟩
  have hE2 : ∃ b, enoughB l (who ++ [a3]) = b := ⟨_, rfl⟩
  have hE3 : ∃ b, allB l who = b := ⟨_, rfl⟩
  have hE4 : ∃ b, decide (a3 ∈ l) = b := ⟨_, rfl⟩
  obtain ⟨b1, hE1⟩ := hE1; obtain ⟨b2, hE2⟩ := hE2; obtain ⟨b3, hE3⟩ := hE3; obtain ⟨b4, hE4⟩ := hE4
  rw [hE4]
  rw [hE1, hE2] at F1
  rw [hE1, hE2, hE4] at F2
  rw [hE1, hE3] at F3
  have G1 := f1.below (stays_int _) hB6
  have G2 := f2.below (stays_int _) hB6
  clear hx f1 f2
  cases b1 <;> cases b2 <;> cases b3 <;> cases b4 <;> simp at F1 F2 F3
  all_goals
    clear F1 F2 F3
    go_wp2_with fail
    have hS1 := Reg.Held.start hc5
    refine Reg.wp_region_ord [(false, 0), (false, 1), (false, 2), (false, 3), (true, 4), (false, 5), (false, 6), (false, 7), (false, 8), (true, 9), (false, 10), (false, 11), (false, 12), (false, 13), (false, 14), (false, 15), (false, 16), (false, 18), (false, 19), (true, 17), (true, 20), (false, 21), (false, 22), (false, 23), (false, 24), (false, 25), (false, 26), (true, 27), (false, 28), (false, 29), (false, 30), (false, 31), (true, 32), (false, 33), (false, 34), (false, 35), (false, 36), (false, 37), (false, 38), (true, 39), (false, 40), (false, 41)] (Reg.Held w5 _) (by kernel_rfl) (by kernel_rfl) (fun d _ _ _ _ h => by cases d <;> exact h) hS1 ?_
    repeat (first | (refine Reg.ord_skip rfl ?_ (fun K hK => ?_); (focus rfl); go_simp; refine hK _ ?_; clear hK K) | (refine Reg.ord_quiet rfl ?_ ?_; (focus rfl); apply Exists.intro; refine ⟨fun w' hS => ?_, fun K hK => ?_⟩; (first | (obtain ⟨_, hS2⟩ := hS; simp only [Reg.CellsAt, and_true] at hS2; go_simp; rfl) | (go_simp; rfl) | rfl); go_simp; refine hK _ ?_; clear hK K))
    repeat
      (refine Reg.ord_alone rfl ?_ (fun K hK => ?_); (focus rfl)
       go_simp
       (first
         | with_reducible refine (enough_any ep A n c l HN.out B m d who HM.out _ (G1.below (stays_int _) hS1.bel) (G2.below (stays_int _) hS1.bel) (by have := H0.out; omega)).mono ?_
         | with_reducible refine (enough_any ep A n c l HN.out A2 (m + 1) c2 (who ++ [a3]) HM2.out _ (G1.below (stays_int _) hS1.bel) (f3.below (stays_int _) hS1.bel) (by have := H0.out; omega)).mono ?_
         | with_reducible refine (all_any ep A n c l HN.out B m d who HM.out _ (G1.below (stays_int _) hS1.bel) (G2.below (stays_int _) hS1.bel)).mono ?_
         | with_reducible refine (enough_any ep A n c l HN.out A n c l HN.out _ (G1.below (stays_int _) hS1.bel) (G1.below (stays_int _) hS1.bel) (by have := H0.out; omega)).mono ?_)
       rintro e7 w7 ⟨rfl, hb7⟩
       replace hS1 := hS1.keep hb7
       clear hb7
       refine hK _ _ hS1 ?_; clear hK K
       repeat (first | (refine Reg.ord_skip rfl ?_ (fun K hK => ?_); (focus rfl); go_simp; refine hK _ ?_; clear hK K) | (refine Reg.ord_quiet rfl ?_ ?_; (focus rfl); apply Exists.intro; refine ⟨fun w' hS => ?_, fun K hK => ?_⟩; (first | (obtain ⟨_, hS2⟩ := hS; simp only [Reg.CellsAt, and_true] at hS2; go_simp; rfl) | (go_simp; rfl) | rfl); go_simp; refine hK _ ?_; clear hK K)))
    refine Reg.ord_nil ?_
    go_wp2_with fail
    go_ret
    exact ⟨rfl, below_more hB6 hS1.bel⟩
end Go.Proofs.Ytjlohcacpjpdbaa.BalQ
