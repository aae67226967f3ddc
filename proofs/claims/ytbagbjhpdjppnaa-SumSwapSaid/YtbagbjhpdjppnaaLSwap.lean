/- Where two bytes side by side are swapped, and unlike, the sum is another one: the walk of the law. -/
import Derived.Test.YtbagbjhpdjppnaaLTurned
set_option linter.unusedVariables false
set_option linter.unusedSimpArgs false
namespace Go.Proofs.Ytbagbjhpdjppnaa.Sum
open Go.RowKit
theorem parts_of2 (b : ByteArray) (k : Nat) (h : k + 1 < b.size) : b.data.toList = b.data.toList.take k ++ b[k] :: b[k + 1] :: b.data.toList.drop (k + 2) := by
  have hk : k < b.data.toList.length := by simpa using Nat.lt_of_succ_lt h
  have hk1 : k + 1 < b.data.toList.length := by simpa using h
  conv => lhs; rw [← List.take_append_drop k b.data.toList]
  rw [List.drop_eq_getElem_cons hk, List.drop_eq_getElem_cons hk1]
  simp
  exact ⟨rfl, rfl⟩
set_option maxRecDepth 100000 in
set_option maxHeartbeats 2000000 in
theorem walk_SumSwap (a0 : ByteArray) (_w0 : a0.size ≤ maxLen) (a1 : Int) (w1 : (Lit.int .i64 a1).wf = true) (w : World) :
    Calls Try.prog 6 #[.string a0, .int .i64 a1] w fun e w' => e = .returned (.bool true) ∧ Below w.heap.size w w' := by
  have kb := run_by (P := Try.prog) 9 27 5 Try.underlying9 Try.underlying27 Try.underlying5
  have kx : ∀ (w : World) (y z : UInt8), (convert 27 9 (.slice (some ⟨w.heap.size, 0, none⟩) 2 2)).run Try.prog (w.alloc (.cells #[.int .u8 (y.toNat : Int), .int .u8 (z.toNat : Int)] 5)) = .ok (.string ⟨#[y, z]⟩) (w.alloc (.cells #[.int .u8 (y.toNat : Int), .int .u8 (z.toNat : Int)] 5)) :=
    fun w y z => run_str _ _ 5 Try.underlying27 Try.underlying5 Try.underlying9 _ _ [y, z] 2 2 rfl (rd_alloc w _ _ _ [y, z] rfl (by simp))
  clear _w0 w1
  by_cases hl0 : (3000 : Int) < (a0.size : Int)
  · go_enter Try.func6, Try.ntmps6
    go_wp2_with (go_at_call 9; refine (works_any _).mono ?_; rintro e w1 ⟨rfl, hb1⟩)
    go_ret
    exact ⟨rfl, hb1⟩
  have hd0 : decide ((3000 : Int) < (a0.size : Int)) = false := by simpa using hl0
  by_cases hl1 : a1 < 0
  · clear hl0
    have hd1 : decide (a1 < 0) = true := by simpa using hl1
    clear hl1
    go_enter Try.func6, Try.ntmps6
    go_wp2_with (go_at_call 9; refine (works_any _).mono ?_; rintro e w1 ⟨rfl, hb1⟩)
    go_ret
    exact ⟨rfl, hb1⟩
  have hd1 : decide (a1 < 0) = false := by simpa using hl1
  have hn0 : (a0.size : Int) ≤ 3000 := by omega
  by_cases hl2 : (a0.size : Int) - 2 < a1
  · clear hl0 hl1
    have hd2 : decide ((a0.size : Int) - 2 < a1) = true := by simpa using hl2
    clear hl2
    go_enter Try.func6, Try.ntmps6
    go_wp2_with (go_at_call 9; refine (works_any _).mono ?_; rintro e w1 ⟨rfl, hb1⟩)
    go_ret
    exact ⟨rfl, hb1⟩
  have hd2 : decide ((a0.size : Int) - 2 < a1) = false := by simpa using hl2
  obtain ⟨k, rfl⟩ : ∃ k : Nat, a1 = (k : Int) := ⟨a1.toNat, by omega⟩
  have hk0 : (0 : Int) ≤ (k : Int) := by omega
  have hk1 : (k : Int) < (a0.size : Int) := by omega
  have hk2 : (k : Int) ≤ (a0.size : Int) := by omega
  have hk3 : (k : Int) + 1 < (a0.size : Int) := by omega
  have hk5 : (k : Int) + 2 ≤ (a0.size : Int) := by omega
  have hk6 : (0 : Int) ≤ (k : Int) + 1 := by omega
  have hk7 : (0 : Int) ≤ (k : Int) + 2 := by omega
  have hk4 : k + 1 < a0.size := by omega
  have hwr : IntKind.i64.wrap ((k : Int) + 1) = (k : Int) + 1 := IntWalk.i64_in _ (by omega)
  have hwr2 : IntKind.i64.wrap ((k : Int) + 2) = (k : Int) + 2 := IntWalk.i64_in _ (by omega)
  have ht2 : ((k : Int) + 2).toNat = k + 2 := by omega
  clear hl0 hl1 hl2
  obtain ⟨c, hc⟩ : ∃ c, c = a0.extract 0 k ++ ⟨#[a0[k + 1], a0[k]]⟩ ++ a0.extract (k + 2) a0.size := ⟨_, rfl⟩
  have HC : Hid (c.data.toList = a0.data.toList.take k ++ a0[k + 1] :: a0[k] :: a0.data.toList.drop (k + 2)) := by
    show _ = _
    rw [hc]; simp only [ByteArray.data_append, Array.toList_append, ext_head, ext_tail]; simp
  have HCS : Hid (c.size ≤ 3000) := by
    show _ ≤ _
    have h := congrArg List.length HC.out
    simp at h
    have h1 : a0.data.size = a0.size := rfl
    have h2 : c.data.size = c.size := rfl
    omega
  have HX : Hid ((((crcB 0#32 c.data.toList).toNat : Int) == ((crcB 0#32 a0.data.toList).toNat : Int)) = (c.toList == a0.toList)) := by
    show _ = _
    rw [toNat_eq_iff, Bool.eq_iff_iff, ByteArray.toList_eq, ByteArray.toList_eq, HC.out]
    rw [show crcB 0#32 a0.data.toList = crcB 0#32 (a0.data.toList.take k ++ a0[k] :: a0[k + 1] :: a0.data.toList.drop (k + 2)) by rw [← parts_of2 a0 k hk4]]
    simp only [crcB, List.map_append, List.map_cons, decide_eq_true_eq, beq_iff_eq]
    rw [Crc.crc_swap _ _ _ _ _ (a0[k + 1]).toNat_lt (a0[k]).toNat_lt, UInt8.toNat_inj]
    constructor
    · intro h
      conv => rhs; rw [parts_of2 a0 k hk4]
      rw [h]
    · intro h
      rw [parts_of2 a0 k hk4] at h
      have h := congrArg (fun l => l[k]?) h
      have hlen : (a0.data.toList.take k).length = k := by rw [List.length_take]; simp; omega
      rw [← parts_of2 a0 k hk4] at h
      rw [List.getElem?_append_right (by omega), hlen, Nat.sub_self, List.getElem?_cons_zero] at h
      have hk8 : k < a0.data.toList.length := by simpa using Nat.lt_of_succ_lt hk4
      rw [List.getElem?_eq_getElem hk8] at h
      injection h
  have HCD := Lib.hid hc; clear hc
  go_enter Try.func6, Try.ntmps6
  go_wp2_with (go_at_call 9; refine (works_any _).mono ?_; rintro e w1 ⟨rfl, hb1⟩)
  refine Reg.wp_region_ord [(false, 0), (false, 1), (false, 2), (false, 3), (false, 4), (false, 5), (false, 6), (false, 7), (false, 8), (false, 9), (false, 13), (false, 14), (false, 15), (false, 16), (true, 10), (true, 11), (false, 12), (false, 17), (false, 18)] (fun w' => Below w.heap.size w w') (by kernel_rfl) (by kernel_rfl) (fun d _ _ _ _ h => by cases d <;> exact h) hb1.drew ?_
  have hb0 := hb1.drew; clear hb1
  generalize w1.drew = W0 at hb0
  repeat (refine Reg.ord_quiet rfl rfl ?_; apply Exists.intro; refine ⟨fun w' hS => ?_, fun K hK => ?_⟩; (first | (obtain _h := hS; go_simp; rfl) | rfl); go_simp; refine hK _ ?_; clear hK K)
  refine Reg.ord_alone rfl rfl (fun K hK => ?_); go_simp
  have hb2 := below_al hb0 (.cells #[.int .u8 (a0[k + 1].toNat : Int), .int .u8 (a0[k].toNat : Int)] 5)
  refine hK _ _ hb2 ?_; clear hK K
  have kx1 := kx W0 a0[k + 1] a0[k]
  refine Reg.ord_alone rfl rfl (fun K hK => ?_); go_simp
  refine hK _ _ hb2 ?_; clear hK K
  have hcat : ∀ W : World, (Op.stringOp .add (a0.extract 0 k) ⟨#[a0[k + 1], a0[k]]⟩).run Try.prog W = .ok (.string (a0.extract 0 k ++ ⟨#[a0[k + 1], a0[k]]⟩)) W := fun W => run_string_add_sum W _ _ (by rw [ByteArray.size_extract, show (⟨#[a0[k + 1], a0[k]]⟩ : ByteArray).size = 2 from rfl]; omega)
  have hcat2 : ∀ W : World, (Op.stringOp .add (a0.extract 0 k ++ ⟨#[a0[k + 1], a0[k]]⟩) (a0.extract (k + 2) a0.size)).run Try.prog W = .ok (.string c) W := fun W => by
    rw [HCD.out]; exact run_string_add_sum W _ _ (by have := HCS.out; rw [HCD.out, ByteArray.size_append] at this; omega)
  repeat (refine Reg.ord_quiet rfl rfl ?_; apply Exists.intro; refine ⟨fun w' hS => ?_, fun K hK => ?_⟩; (first | (obtain _h := hS; go_simp; rfl) | rfl); go_simp; refine hK _ ?_; clear hK K)
  refine Reg.ord_nil ?_
  clear hcat hcat2 kx1 hb0
  generalize W0.alloc (.cells #[.int .u8 (a0[k + 1].toNat : Int), .int .u8 (a0[k].toNat : Int)] 5) = W1 at hb2
  go_wp2_with fail
  ((with_reducible refine (of_any _ _ _ c.data.toList (by simp) _ (by_rd _ _ _ (by have := HCS.out; omega))).mono ?_); rintro e w3 ⟨rfl, hb3⟩)
  have hb3 := below_more hb2 (below_more (by_below _ _ _) hb3); clear hb2
  go_wp2_with fail
  ((with_reducible refine (of_any _ _ _ a0.data.toList (by simp) _ (by_rd _ _ _ (by omega))).mono ?_); rintro e w4 ⟨rfl, hb4⟩)
  have hb4 := below_more hb3 (below_more (by_below _ _ _) hb4); clear hb3
  go_wp2_with fail
  go_ret
  refine ⟨?_, hb4⟩
  show Ending.returned (.bool ((((crcB 0#32 c.data.toList).toNat : Int) == ((crcB 0#32 a0.data.toList).toNat : Int)) == (c.toList == a0.toList))) = _
  rw [HX.out]; simp
end Go.Proofs.Ytbagbjhpdjppnaa.Sum
