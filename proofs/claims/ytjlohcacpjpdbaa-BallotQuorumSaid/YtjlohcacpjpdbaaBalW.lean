/- The document's examples of ballots: contract of the statements' own function works. -/
import Derived.Test.YtjlohcacpjpdbaaBal3
set_option linter.unusedVariables false
set_option linter.unusedSimpArgs false
namespace Go.Proofs.Ytjlohcacpjpdbaa.Bal
open Go.RowKit
open Go.Proofs.Ytjlohcacpjpdbaa Go.Proofs.Ytjlohcacpjpdbaa.Base Go.Proofs.Ytjlohcacpjpdbaa.Read
theorem q3 : quorumN 3 = 2 := by decide
theorem q4 : quorumN 4 = 3 := by decide
theorem q5 : quorumN 5 = 3 := by decide
theorem en1 : enoughB [1, 2, 3] [3, 1] = true := by decide
theorem al1 : allB [1, 2, 3] [3, 1] = false := by decide
theorem le1 : lessB 2 1 2 2 = true := by decide
theorem va1 : validB 2 1 = true := by decide
theorem mo1 : mostB 2 1 0 0 = (2, 1) := by decide
set_option maxRecDepth 100000 in
set_option maxHeartbeats 2000000 in
theorem works_any (w : World) :
    Calls Try.prog 9 #[] w fun e w' => e = .returned (.bool true) ∧ Below w.heap.size w w' := by
  go_enter Try.func9, Try.ntmps9
  go_wp2_with fail
  have hR := Row.alloc (k := .i64) w #[.int .i64 1, .int .i64 2, .int .i64 3] 3 (0, 0) [1, 2, 3] rfl (by decide) (by decide)
  have hb0 : Below w.heap.size w (((w.alloc (.cells #[.int .i64 1, .int .i64 2, .int .i64 3] 3)).alloc (.cells #[.int .i64 0, .slice (some ⟨w.heap.size, 0, none⟩) 3 3] 35)).alloc (.cells #[.int .i64 2, .int .i64 1] 23)) := by repeat (first | exact Below.refl _ _ | exact below_al' _ _ | apply below_al | apply Below.drew)
  have hc0 : Reg.CellsAt [(⟨w.heap.size + 1, 0, none⟩, .int .i64 0), (⟨w.heap.size + 1, 1, none⟩, .slice (some ⟨w.heap.size, 0, none⟩) 3 3), (⟨w.heap.size + 1 + 1, 0, none⟩, .int .i64 2), (⟨w.heap.size + 1 + 1, 1, none⟩, .int .i64 1)] (((w.alloc (.cells #[.int .i64 1, .int .i64 2, .int .i64 3] 3)).alloc (.cells #[.int .i64 0, .slice (some ⟨w.heap.size, 0, none⟩) 3 3] 35)).alloc (.cells #[.int .i64 2, .int .i64 1] 23)) := by
    simp [Reg.CellsAt, go_sem]
  have hR2 := hR.below (stays_int _) (below_al (below_al' _ (.cells #[.int .i64 0, .slice (some ⟨w.heap.size, 0, none⟩) 3 3] 35)) (.cells #[.int .i64 2, .int .i64 1] 23))
  clear hR
  generalize ((w.alloc (.cells #[.int .i64 1, .int .i64 2, .int .i64 3] 3)).alloc (.cells #[.int .i64 0, .slice (some ⟨w.heap.size, 0, none⟩) 3 3] 35)).alloc (.cells #[.int .i64 2, .int .i64 1] 23) = W at hb0 hc0 hR2
  have hS1 := Reg.Held.start hc0; clear hc0
  refine Reg.wp_region_ord [(true, 0), (false, 1), (false, 2), (true, 3), (false, 4), (false, 5), (false, 6), (true, 7), (false, 8), (false, 9), (false, 10), (false, 11), (true, 12), (true, 13), (false, 14), (false, 15), (false, 16), (true, 17), (true, 18), (false, 19), (false, 20), (false, 21), (false, 22), (false, 23), (true, 24), (false, 25), (false, 26), (false, 27), (false, 29), (true, 28), (false, 30), (false, 31), (false, 32), (false, 33), (false, 35), (true, 34), (false, 36), (false, 37), (false, 38), (false, 39), (true, 40), (false, 41), (false, 42), (false, 43), (false, 44), (false, 46), (true, 45), (false, 47), (false, 48), (false, 49)] (Reg.Held W _) (by kernel_rfl) (by kernel_rfl) (fun d _ _ _ _ h => by cases d <;> exact h) hS1 ?_
  generalize W.drew = W0 at hS1
  refine Reg.ord_alone rfl rfl (fun K hK => ?_); go_simp
  ((with_reducible refine (quorum_any _ (by decide) _).mono ?_); rintro e w1 ⟨rfl, rfl⟩)
  rw [q3]
  refine hK _ _ hS1 ?_; clear hK K
  repeat (refine Reg.ord_quiet rfl rfl ?_; apply Exists.intro; refine ⟨fun w' hS => ?_, fun K hK => ?_⟩; (first | (obtain ⟨_, hS2⟩ := hS; simp only [Reg.CellsAt, and_true] at hS2; go_simp; rfl) | (go_simp; rfl) | rfl); go_simp; refine hK _ ?_; clear hK K)
  refine Reg.ord_alone rfl rfl (fun K hK => ?_); go_simp
  ((with_reducible refine (quorum_any _ (by decide) _).mono ?_); rintro e w1 ⟨rfl, rfl⟩)
  rw [q4]
  refine hK _ _ hS1 ?_; clear hK K
  repeat (refine Reg.ord_quiet rfl rfl ?_; apply Exists.intro; refine ⟨fun w' hS => ?_, fun K hK => ?_⟩; (first | (obtain ⟨_, hS2⟩ := hS; simp only [Reg.CellsAt, and_true] at hS2; go_simp; rfl) | (go_simp; rfl) | rfl); go_simp; refine hK _ ?_; clear hK K)
  refine Reg.ord_alone rfl rfl (fun K hK => ?_); go_simp
  ((with_reducible refine (quorum_any _ (by decide) _).mono ?_); rintro e w1 ⟨rfl, rfl⟩)
  rw [q5]
  refine hK _ _ hS1 ?_; clear hK K
  repeat (refine Reg.ord_quiet rfl rfl ?_; apply Exists.intro; refine ⟨fun w' hS => ?_, fun K hK => ?_⟩; (first | (obtain ⟨_, hS2⟩ := hS; simp only [Reg.CellsAt, and_true] at hS2; go_simp; rfl) | (go_simp; rfl) | rfl); go_simp; refine hK _ ?_; clear hK K)
  refine Reg.ord_alone rfl rfl (fun K hK => ?_); go_simp
  have hS2 := hS1.keep (below_al' _ (.cells #[.int .i64 3, .int .i64 1] 3))
  refine hK _ _ hS2 ?_; clear hK K; clear hS1
  refine Reg.ord_alone rfl rfl (fun K hK => ?_); go_simp
  ((with_reducible refine (enough_any 0 _ 3 _ [1, 2, 3] rfl _ 2 _ [3, 1] rfl _ (hR2.below (stays_int _) hS2.bel) (Row.alloc _ _ _ _ _ rfl (by decide) (by decide)) (by decide)).mono ?_); rintro e w1 ⟨rfl, hb1⟩)
  rw [en1]
  have hS3 := hS2.keep hb1; clear hS2 hb1
  refine hK _ _ hS3 ?_; clear hK K
  repeat (refine Reg.ord_quiet rfl rfl ?_; apply Exists.intro; refine ⟨fun w' hS => ?_, fun K hK => ?_⟩; (first | (obtain ⟨_, hS2⟩ := hS; simp only [Reg.CellsAt, and_true] at hS2; go_simp; rfl) | (go_simp; rfl) | rfl); go_simp; refine hK _ ?_; clear hK K)
  refine Reg.ord_alone rfl rfl (fun K hK => ?_); go_simp
  have hS4 := hS3.keep (below_al' _ (.cells #[.int .i64 3, .int .i64 1] 3))
  refine hK _ _ hS4 ?_; clear hK K; clear hS3
  refine Reg.ord_alone rfl rfl (fun K hK => ?_); go_simp
  ((with_reducible refine (all_any 0 _ 3 _ [1, 2, 3] rfl _ 2 _ [3, 1] rfl _ (hR2.below (stays_int _) hS4.bel) (Row.alloc _ _ _ _ _ rfl (by decide) (by decide))).mono ?_); rintro e w2 ⟨rfl, hb2⟩)
  rw [al1]
  have hS5 := hS4.keep hb2; clear hS4 hb2
  refine hK _ _ hS5 ?_; clear hK K
  repeat (refine Reg.ord_quiet rfl rfl ?_; apply Exists.intro; refine ⟨fun w' hS => ?_, fun K hK => ?_⟩; (first | (obtain ⟨_, hS2⟩ := hS; simp only [Reg.CellsAt, and_true] at hS2; go_simp; rfl) | (go_simp; rfl) | rfl); go_simp; refine hK _ ?_; clear hK K)
  refine Reg.ord_alone rfl rfl (fun K hK => ?_); go_simp
  ((with_reducible refine (less_any _ _ _ _ _).mono ?_); rintro e w3 ⟨rfl, hb3⟩)
  rw [le1]
  have hS6 := hS5.keep hb3; clear hS5 hb3
  refine hK _ _ hS6 ?_; clear hK K
  repeat (refine Reg.ord_quiet rfl rfl ?_; apply Exists.intro; refine ⟨fun w' hS => ?_, fun K hK => ?_⟩; (first | (obtain ⟨_, hS2⟩ := hS; simp only [Reg.CellsAt, and_true] at hS2; go_simp; rfl) | (go_simp; rfl) | rfl); go_simp; refine hK _ ?_; clear hK K)
  refine Reg.ord_alone rfl rfl (fun K hK => ?_); go_simp
  ((with_reducible refine (next_any _ _ _ _).mono ?_); rintro e w4 ⟨rfl, hb4⟩)
  rw [show wrap64 (2 + 1) = 3 from by decide +kernel]
  have hS7 := hS6.keep hb4; clear hS6 hb4
  refine hK _ _ hS7 ?_; clear hK K
  repeat (refine Reg.ord_quiet rfl rfl ?_; apply Exists.intro; refine ⟨fun w' hS => ?_, fun K hK => ?_⟩; (first | (obtain ⟨_, hS2⟩ := hS; simp only [Reg.CellsAt, and_true] at hS2; go_simp; rfl) | (go_simp; rfl) | rfl); go_simp; refine hK _ ?_; clear hK K)
  refine Reg.ord_alone rfl rfl (fun K hK => ?_); go_simp
  ((with_reducible refine (first_any _ _ _ _).mono ?_); rintro e w5 ⟨rfl, hb5⟩)
  have hS8 := hS7.keep hb5; clear hS7 hb5
  refine hK _ _ hS8 ?_; clear hK K
  repeat (refine Reg.ord_quiet rfl rfl ?_; apply Exists.intro; refine ⟨fun w' hS => ?_, fun K hK => ?_⟩; (first | (obtain ⟨_, hS2⟩ := hS; simp only [Reg.CellsAt, and_true] at hS2; go_simp; rfl) | (go_simp; rfl) | rfl); go_simp; refine hK _ ?_; clear hK K)
  refine Reg.ord_alone rfl rfl (fun K hK => ?_); go_simp
  ((with_reducible refine (valid_any _ _ _).mono ?_); rintro e w6 ⟨rfl, hb6⟩)
  rw [va1]
  have hS9 := hS8.keep hb6; clear hS8 hb6
  refine hK _ _ hS9 ?_; clear hK K
  repeat (refine Reg.ord_quiet rfl rfl ?_; apply Exists.intro; refine ⟨fun w' hS => ?_, fun K hK => ?_⟩; (first | (obtain ⟨_, hS2⟩ := hS; simp only [Reg.CellsAt, and_true] at hS2; go_simp; rfl) | (go_simp; rfl) | rfl); go_simp; refine hK _ ?_; clear hK K)
  refine Reg.ord_alone rfl rfl (fun K hK => ?_); go_simp
  ((with_reducible refine (most_any _ _ _ _ _).mono ?_); rintro e w7 ⟨rfl, hb7⟩)
  rw [mo1]
  have hS10 := hS9.keep hb7; clear hS9 hb7
  refine hK _ _ hS10 ?_; clear hK K
  repeat (refine Reg.ord_quiet rfl rfl ?_; apply Exists.intro; refine ⟨fun w' hS => ?_, fun K hK => ?_⟩; (first | (obtain ⟨_, hS2⟩ := hS; simp only [Reg.CellsAt, and_true] at hS2; go_simp; rfl) | (go_simp; rfl) | rfl); go_simp; refine hK _ ?_; clear hK K)
  refine Reg.ord_nil ?_
  go_wp2_with fail
  go_ret
  exact ⟨rfl, hS10.from hb0⟩
end Go.Proofs.Ytjlohcacpjpdbaa.Bal
