/- How many are more than half, and whether some, or all, of a configuration are there, is just what the document says: the walk of the law. -/
import Derived.Test.YtjlohcacpjpdbaaLTells
set_option linter.unusedVariables false
set_option linter.unusedSimpArgs false
namespace Go.Proofs.Ytjlohcacpjpdbaa.Bal
open Go.RowKit Go.WideShapes
open Go.Proofs.Ytjlohcacpjpdbaa Go.Proofs.Ytjlohcacpjpdbaa.Base Go.Proofs.Ytjlohcacpjpdbaa.Read
theorem quorum_pos {n : Nat} (h : 0 < n) : 0 < quorumN (n : Int) := by unfold quorumN; split <;> omega
set_option maxRecDepth 100000 in
set_option maxHeartbeats 2000000 in
theorem walk_BallotEnough {w : World} (a0 : Int) (_w0 : (Lit.int .i64 a0).wf = true) (x1 : Int × Ints) (f1 : IntsAt w x1.2) (x2 : Ints) (f2 : IntsAt w x2) :
    Calls Try.prog 4 #[.int .i64 a0, vCfg x1, vInts x2] w fun e w' => e = .returned (.bool true) ∧ Below w.heap.size w w' := by
  obtain ⟨ep, A, c, l⟩ := x1
  obtain ⟨B, d, who⟩ := x2
  obtain ⟨n, hn⟩ : ∃ n, n = l.length := ⟨_, rfl⟩
  obtain ⟨m, hm⟩ : ∃ m, m = who.length := ⟨_, rfl⟩
  show Calls Try.prog 4 #[.int .i64 a0, .agg #[.int .i64 ep, .slice A l.length c], .slice B who.length d] w _
  rw [← hn, ← hm]
  have HN := Lib.hid hn.symm; have HM := Lib.hid hm.symm
  replace f1 : Row 1 (rInt .i64) w A l := f1
  replace f2 : Row 1 (rInt .i64) w B who := f2
  clear _w0 hn hm
  by_cases h0 : (100000 : Int) < a0
  · go_enter Try.func4, Try.ntmps4
    go_wp2_with (go_at_call 9; refine (works_any _).mono ?_; rintro e w1 ⟨rfl, hb1⟩; obtain ⟨hcW, hfW⟩ := bcell hb1)
    go_ret
    exact ⟨rfl, below_more (by repeat (first | exact Below.refl _ _ | exact below_al' _ _ | apply below_al | apply Below.drew)) hb1⟩
  have hd0 : decide ((100000 : Int) < a0) = false := by simpa using h0
  by_cases h1 : (60 : Int) < (n : Int)
  · clear h0
    go_enter Try.func4, Try.ntmps4
    go_wp2_with (go_at_call 9; refine (works_any _).mono ?_; rintro e w1 ⟨rfl, hb1⟩; obtain ⟨hcW, hfW⟩ := bcell hb1)
    go_ret
    exact ⟨rfl, below_more (by repeat (first | exact Below.refl _ _ | exact below_al' _ _ | apply below_al | apply Below.drew)) hb1⟩
  have hd1 : decide ((60 : Int) < (n : Int)) = false := by simpa using h1
  by_cases h2 : (60 : Int) < (m : Int)
  · clear h0 h1
    go_enter Try.func4, Try.ntmps4
    go_wp2_with (go_at_call 9; refine (works_any _).mono ?_; rintro e w1 ⟨rfl, hb1⟩; obtain ⟨hcW, hfW⟩ := bcell hb1)
    go_ret
    exact ⟨rfl, below_more (by repeat (first | exact Below.refl _ _ | exact below_al' _ _ | apply below_al | apply Below.drew)) hb1⟩
  have hd2 : decide ((60 : Int) < (m : Int)) = false := by simpa using h2
  have H0 : Hid (a0 ≤ 100000) := by show _ ≤ _; omega
  have H1 : Hid (n ≤ 60) := by show _ ≤ _; omega
  clear h0 h1 h2
  obtain ⟨k, hk⟩ : ∃ k, k = cntL l who := ⟨_, rfl⟩
  have hE : enoughB l who = decide (quorumN (n : Int) ≤ (k : Int)) := by rw [enoughB, HN.out, ← hk]
  have hA2 : allB l who = (decide (0 < n) && decide (k = n)) := by rw [allB, HN.out, ← hk]
  have HK := Lib.hid hk.symm; clear hk
  have key : ∀ (b1 b2 b3 : Bool), ((k : Int) == (n : Int)) = b1 → decide (0 < k) = b2 → allB l who = b3 → b3 = (b1 && b2) → Calls Try.prog 4 #[.int .i64 a0, .agg #[.int .i64 ep, .slice A n c], .slice B m d] w fun e w' => e = .returned (.bool true) ∧ Below w.heap.size w w' := by
    clear hA2
    intro b1 b2 b3 hb1' hb2' hb3' hbb
    cases b1 <;> cases b2 <;> simp at hbb <;> subst hbb
    all_goals
      have hc0 : Reg.CellsAt [(⟨w.heap.size, 0, none⟩, .int .i64 ep), (⟨w.heap.size, 1, none⟩, .slice A n c)] (w.alloc (.cells #[.int .i64 ep, .slice A n c] 35)) := by
        simp [Reg.CellsAt, go_sem]
      go_enter Try.func4, Try.ntmps4
      go_wp2_with (go_at_call 9; refine (works_any _).mono ?_; rintro e w1 ⟨rfl, hb1⟩; obtain ⟨hcW, hfW⟩ := bcell hb1)
      have hB1 : Below w.heap.size w w1 := below_more (by repeat (first | exact Below.refl _ _ | exact below_al' _ _ | apply below_al | apply Below.drew)) hb1
      ((with_reducible refine (count_any ep A n c l HN.out B m d who HM.out _ (f1.below (stays_int _) hB1) (f2.below (stays_int _) hB1)).mono ?_); rintro e2 w2 ⟨rfl, hb2⟩)
      rw [HK.out]
      have hc1 := (hc0.keep hb1).keep hb2
      have hB2 := below_more hB1 hb2
      clear hc0 hb1 hb2 hB1 hcW hfW
      go_wp2_with fail
      have hS1 := Reg.Held.start hc1; clear hc1
      refine Reg.wp_region_ord [(false, 0), (false, 1), (false, 2), (false, 4), (true, 3), (true, 5), (false, 6), (false, 7), (false, 8), (false, 9), (false, 10), (false, 12), (false, 13), (false, 14), (false, 15), (true, 11), (true, 16), (false, 17), (false, 18), (false, 19), (false, 20), (false, 21), (false, 22), (false, 24), (false, 25), (false, 26), (false, 27), (false, 28), (true, 23), (false, 29), (false, 30), (false, 31), (false, 32), (false, 33), (false, 34), (false, 35)] (Reg.Held w2 _) (by kernel_rfl) (by kernel_rfl) (fun d _ _ _ _ h => by cases d <;> exact h) hS1 ?_
      generalize w2.drew = W0 at hS1
      repeat (refine Reg.ord_quiet rfl rfl ?_; apply Exists.intro; refine ⟨fun w' hS => ?_, fun K hK => ?_⟩; (first | (obtain ⟨_, hS2⟩ := hS; simp only [Reg.CellsAt, and_true] at hS2; go_simp; rfl) | (go_simp; rfl) | rfl); go_simp; refine hK _ ?_; clear hK K)
      refine Reg.ord_alone rfl rfl (fun K hK => ?_); go_simp
      ((with_reducible refine (quorum_any _ (by have := H0.out; omega) _).mono ?_); rintro e3 w3 ⟨rfl, rfl⟩)
      refine hK _ _ hS1 ?_; clear hK K
      repeat (refine Reg.ord_quiet rfl rfl ?_; apply Exists.intro; refine ⟨fun w' hS => ?_, fun K hK => ?_⟩; (first | (obtain ⟨_, hS2⟩ := hS; simp only [Reg.CellsAt, and_true] at hS2; go_simp; rfl) | (go_simp; rfl) | rfl); go_simp; refine hK _ ?_; clear hK K)
      refine Reg.ord_alone rfl rfl (fun K hK => ?_); go_simp
      ((with_reducible refine (rquorum_any _ (by have := H0.out; omega) _).mono ?_); rintro e4 w4 ⟨rfl, rfl⟩)
      refine hK _ _ hS1 ?_; clear hK K
      repeat (refine Reg.ord_quiet rfl rfl ?_; apply Exists.intro; refine ⟨fun w' hS => ?_, fun K hK => ?_⟩; (first | (obtain ⟨_, hS2⟩ := hS; simp only [Reg.CellsAt, and_true] at hS2; go_simp; rfl) | (go_simp; rfl) | rfl); go_simp; refine hK _ ?_; clear hK K)
      refine Reg.ord_alone rfl rfl (fun K hK => ?_); go_simp
      have hB3 := hS1.from hB2
      ((with_reducible refine (enough_any ep A n c l HN.out B m d who HM.out _ (f1.below (stays_int _) hB3) (f2.below (stays_int _) hB3) (by have := H1.out; omega)).mono ?_); rintro e5 w5 ⟨rfl, hb5⟩)
      have hS5 := hS1.keep hb5; clear hS1 hb5 hB3
      refine hK _ _ hS5 ?_; clear hK K
      repeat (refine Reg.ord_quiet rfl rfl ?_; apply Exists.intro; refine ⟨fun w' hS => ?_, fun K hK => ?_⟩; (first | (obtain ⟨_, hS2⟩ := hS; simp only [Reg.CellsAt, and_true] at hS2; go_simp; rfl) | (go_simp; rfl) | rfl); go_simp; refine hK _ ?_; clear hK K)
      refine Reg.ord_alone rfl rfl (fun K hK => ?_); go_simp
      ((with_reducible refine (rquorum_any _ (by have := H1.out; omega) _).mono ?_); rintro e6 w6 ⟨rfl, rfl⟩)
      refine hK _ _ hS5 ?_; clear hK K
      repeat (refine Reg.ord_quiet rfl rfl ?_; apply Exists.intro; refine ⟨fun w' hS => ?_, fun K hK => ?_⟩; (first | (obtain ⟨_, hS2⟩ := hS; simp only [Reg.CellsAt, and_true] at hS2; go_simp; rfl) | (go_simp; rfl) | rfl); go_simp; refine hK _ ?_; clear hK K)
      refine Reg.ord_alone rfl rfl (fun K hK => ?_); go_simp
      have hB4 := hS5.from hB2
      ((with_reducible refine (all_any ep A n c l HN.out B m d who HM.out _ (f1.below (stays_int _) hB4) (f2.below (stays_int _) hB4)).mono ?_); rintro e7 w7 ⟨rfl, hb7⟩)
      have hS7 := hS5.keep hb7; clear hS5 hb7 hB4
      refine hK _ _ hS7 ?_; clear hK K
      repeat (first | (refine Reg.ord_skip rfl rfl (fun K hK => ?_); go_simp; refine hK _ ?_; clear hK K) | (refine Reg.ord_quiet rfl rfl ?_; apply Exists.intro; refine ⟨fun w' hS => ?_, fun K hK => ?_⟩; (first | (obtain ⟨_, hS2⟩ := hS; simp only [Reg.CellsAt, and_true] at hS2; go_simp; rfl) | (go_simp; rfl) | rfl); go_simp; refine hK _ ?_; clear hK K))
      refine Reg.ord_nil ?_
      go_wp2_with fail
      go_ret
      exact ⟨by simp, hS7.from hB2⟩
  exact key _ _ _ rfl rfl hA2 (by rw [Bool.eq_iff_iff]; simp; omega)
end Go.Proofs.Ytjlohcacpjpdbaa.Bal
