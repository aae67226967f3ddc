/- The sum of two parts is that of the second one behind the first one's: the walk of the law. -/
import Derived.Test.YtbagbjhpdjppnaaSum
import Derived.Test.YtbagbjhpdjppnaaRegion
set_option linter.unusedVariables false
set_option linter.unusedSimpArgs false
namespace Go.Proofs.Ytbagbjhpdjppnaa.Sum
open Go.RowKit
set_option maxRecDepth 100000 in
set_option maxHeartbeats 2000000 in
theorem walk_SumParts (a0 : ByteArray) (_w0 : a0.size ≤ maxLen) (a1 : ByteArray) (_w1 : a1.size ≤ maxLen) (a2 : Int) (w2 : (Lit.int .u32 a2).wf = true) (w : World) :
    Calls Try.prog 4 #[.string a0, .string a1, .int .u32 a2] w fun e w' => e = .returned (.bool true) ∧ Below w.heap.size w w' := by
  have kb := run_by (P := Try.prog) 9 27 5 Try.underlying9 Try.underlying27 Try.underlying5
  have hx : 0 ≤ a2 ∧ a2 < 4294967296 := by simp [Lit.wf, IntKind.min, IntKind.max, IntKind.signed, IntKind.bits] at w2; omega
  obtain ⟨s, rfl⟩ : ∃ s : BitVec 32, a2 = (s.toNat : Int) := ⟨BitVec.ofNat 32 a2.toNat, by simp; omega⟩
  clear hx w2 _w0 _w1
  by_cases hl0 : (3000 : Int) < (a0.size : Int)
  · go_enter Try.func4, Try.ntmps4
    go_wp2_with (go_at_call 9; refine (works_any _).mono ?_; rintro e w1 ⟨rfl, hb1⟩)
    go_ret
    exact ⟨rfl, hb1⟩
  · have hd0 : decide ((3000 : Int) < (a0.size : Int)) = false := by simpa using hl0
    have hn0 : (a0.size : Int) ≤ 3000 := by omega
    clear hl0
    by_cases hl1 : (3000 : Int) < (a1.size : Int)
    · go_enter Try.func4, Try.ntmps4
      go_wp2_with (go_at_call 9; refine (works_any _).mono ?_; rintro e w1 ⟨rfl, hb1⟩)
      go_ret
      exact ⟨rfl, hb1⟩
    · have hd1 : decide ((3000 : Int) < (a1.size : Int)) = false := by simpa using hl1
      have hn1 : (a1.size : Int) ≤ 3000 := by omega
      clear hl1
      have e1 : Hid (crcB 0#32 (a0.data.toList ++ a1.data.toList) = crcB (crcB 0#32 a0.data.toList) a1.data.toList) := by show _ = _; simp [crcB, Crc.crc_append]
      have e2 : Hid (crcB s (a0.data.toList ++ a1.data.toList) = crcB (crcB s a0.data.toList) a1.data.toList) := by show _ = _; simp [crcB, Crc.crc_append]
      go_enter Try.func4, Try.ntmps4
      go_wp2_with (go_at_call 9; refine (works_any _).mono ?_; rintro e w1 ⟨rfl, hb1⟩)
      ((with_reducible refine (of_any _ _ _ (a0.data.toList ++ a1.data.toList) (by simp) _ (by have := by_rd w1 5 (a0 ++ a1) (by simp; omega); simpa using this)).mono ?_); rintro e w2 ⟨rfl, hb2⟩)
      have hb2 := below_more hb1 (below_more (by_below _ _ _) hb2); clear hb1
      go_wp2_with fail
      ((with_reducible refine (of_any _ _ _ a0.data.toList (by simp) _ (by_rd _ _ _ (by omega))).mono ?_); rintro e w3 ⟨rfl, hb3⟩)
      have hb3 := below_more hb2 (below_more (by_below _ _ _) hb3); clear hb2
      go_wp2_with fail
      ((with_reducible refine (more_any _ (crcB 0#32 a0.data.toList) rfl _ _ _ a1.data.toList (by simp) _ (by_rd _ _ _ (by omega))).mono ?_); rintro e w4 ⟨rfl, hb4⟩)
      have hb4 := below_more hb3 (below_more (by_below _ _ _) hb4); clear hb3
      rw [e1.out]
      go_wp2_with fail
      ((with_reducible refine (more_any _ s rfl _ _ _ (a0.data.toList ++ a1.data.toList) (by simp) _ (by have := by_rd w4 5 (a0 ++ a1) (by simp; omega); simpa using this)).mono ?_); rintro e w5 ⟨rfl, hb5⟩)
      have hb5 := below_more hb4 (below_more (by_below _ _ _) hb5); clear hb4
      go_wp2_with fail
      ((with_reducible refine (more_any _ s rfl _ _ _ a0.data.toList (by simp) _ (by_rd _ _ _ (by omega))).mono ?_); rintro e w6 ⟨rfl, hb6⟩)
      have hb6 := below_more hb5 (below_more (by_below _ _ _) hb6); clear hb5
      go_wp2_with fail
      ((with_reducible refine (more_any _ (crcB s a0.data.toList) rfl _ _ _ a1.data.toList (by simp) _ (by_rd _ _ _ (by omega))).mono ?_); rintro e w7 ⟨rfl, hb7⟩)
      have hb7 := below_more hb6 (below_more (by_below _ _ _) hb7); clear hb6
      rw [e2.out]
      go_wp2_with fail
      go_ret
      exact ⟨rfl, hb7⟩
end Go.Proofs.Ytbagbjhpdjppnaa.Sum
