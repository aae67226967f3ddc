/- Each sum comes of any other one by some last byte at most: the walk of the law. -/
import Derived.Test.YtbagbjhpdjppnaaSum
import Derived.Test.YtbagbjhpdjppnaaRegion
set_option linter.unusedVariables false
set_option linter.unusedSimpArgs false
namespace Go.Proofs.Ytbagbjhpdjppnaa.Sum
open Go.RowKit
theorem toNat_eq_iff (a b : BitVec 32) : ((a.toNat : Int) == (b.toNat : Int)) = decide (a = b) := by
  rw [Bool.eq_iff_iff]; simp only [beq_iff_eq, decide_eq_true_eq]
  exact ⟨fun h => BitVec.eq_of_toNat_eq (by omega), fun h => by rw [h]⟩
set_option maxRecDepth 100000 in
set_option maxHeartbeats 2000000 in
theorem walk_SumLast (a0 : Int) (w0 : (Lit.int .u32 a0).wf = true) (a1 : ByteArray) (_w1 : a1.size ≤ maxLen) (a2 : Int) (w2 : (Lit.int .u8 a2).wf = true) (a3 : Int) (w3 : (Lit.int .u8 a3).wf = true) (w : World) :
    Calls Try.prog 8 #[.int .u32 a0, .string a1, .int .u8 a2, .int .u8 a3] w fun e w' => e = .returned (.bool true) ∧ Below w.heap.size w w' := by
  have kb := run_by (P := Try.prog) 9 27 5 Try.underlying9 Try.underlying27 Try.underlying5
  have kx : ∀ (w : World) (z : UInt8), (convert 27 9 (.slice (some ⟨w.heap.size, 0, none⟩) 1 1)).run Try.prog (w.alloc (.cells #[.int .u8 (z.toNat : Int)] 5)) = .ok (.string ⟨#[z]⟩) (w.alloc (.cells #[.int .u8 (z.toNat : Int)] 5)) :=
    fun w z => run_str _ _ 5 Try.underlying27 Try.underlying5 Try.underlying9 _ _ [z] 1 1 rfl (rd_alloc w _ _ _ [z] rfl (by simp))
  have hx : 0 ≤ a0 ∧ a0 < 4294967296 := by simp [Lit.wf, IntKind.min, IntKind.max, IntKind.signed, IntKind.bits] at w0; omega
  obtain ⟨s, rfl⟩ : ∃ s : BitVec 32, a0 = (s.toNat : Int) := ⟨BitVec.ofNat 32 a0.toNat, by simp; omega⟩
  have hy2 : 0 ≤ a2 ∧ a2 < 256 := by simp [Lit.wf, IntKind.min, IntKind.max, IntKind.signed, IntKind.bits] at w2; omega
  have hy3 : 0 ≤ a3 ∧ a3 < 256 := by simp [Lit.wf, IntKind.min, IntKind.max, IntKind.signed, IntKind.bits] at w3; omega
  obtain ⟨x, rfl⟩ : ∃ x : UInt8, a2 = (x.toNat : Int) := ⟨UInt8.ofNat a2.toNat, by simp; omega⟩
  obtain ⟨y, rfl⟩ : ∃ y : UInt8, a3 = (y.toNat : Int) := ⟨UInt8.ofNat a3.toNat, by simp; omega⟩
  clear hx w0 _w1 hy2 hy3 w2 w3
  by_cases hl0 : (3000 : Int) < (a1.size : Int)
  · go_enter Try.func8, Try.ntmps8
    go_wp2_with (go_at_call 9; refine (works_any _).mono ?_; rintro e w1 ⟨rfl, hb1⟩)
    go_ret
    exact ⟨rfl, hb1⟩
  · have hd0 : decide ((3000 : Int) < (a1.size : Int)) = false := by simpa using hl0
    have hn0 : (a1.size : Int) ≤ 3000 := by omega
    clear hl0
    have HX : Hid ((((crcB s (a1.data.toList ++ [x])).toNat : Int) == ((crcB s (a1.data.toList ++ [y])).toNat : Int)) = ((x.toNat : Int) == (y.toNat : Int))) := by
      show _ = _
      rw [toNat_eq_iff, Bool.eq_iff_iff]
      simp only [crcB, List.map_append, List.map_cons, List.map_nil, decide_eq_true_eq, beq_iff_eq]
      rw [Crc.crc_turned s _ [] _ _ x.toNat_lt y.toNat_lt]
      omega
    go_enter Try.func8, Try.ntmps8
    go_wp2_with (go_at_call 9; refine (works_any _).mono ?_; rintro e w1 ⟨rfl, hb1⟩)
    ((with_reducible refine (more_any _ s rfl _ _ _ (a1.data.toList ++ [x]) (by simp) _ (by_rd' _ _ _ _ _ (by simp) (by simp) (by simp; omega))).mono ?_); rintro e w2 ⟨rfl, hb2⟩)
    have hb2 := below_more (below_al hb1 _) (below_more (by_below _ _ _) hb2); clear hb1
    go_wp2_with fail
    ((with_reducible refine (more_any _ s rfl _ _ _ (a1.data.toList ++ [y]) (by simp) _ (by_rd' _ _ _ _ _ (by simp) (by simp) (by simp; omega))).mono ?_); rintro e w3 ⟨rfl, hb3⟩)
    have hb3 := below_more (below_al hb2 _) (below_more (by_below _ _ _) hb3); clear hb2
    go_wp2_with fail
    go_ret
    refine ⟨?_, hb3⟩
    show Ending.returned (.bool ((((crcB s (a1.data.toList ++ [x])).toNat : Int) == ((crcB s (a1.data.toList ++ [y])).toNat : Int)) == ((x.toNat : Int) == (y.toNat : Int)))) = _
    rw [HX.out]; simp
end Go.Proofs.Ytbagbjhpdjppnaa.Sum
