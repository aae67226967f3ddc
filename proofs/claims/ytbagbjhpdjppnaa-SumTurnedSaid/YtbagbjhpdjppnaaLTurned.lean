/- Where one byte is another one the sum is, too: the walk of the law. -/
import Derived.Test.YtbagbjhpdjppnaaSum
import Derived.Test.YtbagbjhpdjppnaaRegion
import Derived.Test.YtbagbjhpdjppnaaLLast
import Derived.IntWalk
set_option linter.unusedVariables false
set_option linter.unusedSimpArgs false
namespace Go.Proofs.Ytbagbjhpdjppnaa.Sum
open Go.RowKit
theorem xor_u8 (x y : UInt8) : bits .xor .u8 (x.toNat : Int) (y.toNat : Int) = ((x ^^^ y).toNat : Int) := by
  rw [u8_xor_nat _ _ x.toNat_lt y.toNat_lt]; simp
theorem parts_of (b : ByteArray) (k : Nat) (h : k < b.size) : b.data.toList = b.data.toList.take k ++ b[k] :: b.data.toList.drop (k + 1) := by
  have hk : k < b.data.toList.length := by simpa using h
  conv => lhs; rw [← List.take_append_drop k b.data.toList]
  rw [List.drop_eq_getElem_cons hk]
  simp; rfl
theorem ext_head (b : ByteArray) (k : Nat) : (b.extract 0 k).data.toList = b.data.toList.take k := by simp [ByteArray.data_extract]
theorem ext_tail (b : ByteArray) (k : Nat) : (b.extract k b.size).data.toList = b.data.toList.drop k := by
  simp [ByteArray.data_extract]
  exact List.take_of_length_le (by simp)
theorem xor_self_iff (x y : UInt8) : x ^^^ y = x ↔ y = 0 := by
  constructor
  · intro h
    have h2 : x ^^^ (x ^^^ y) = x ^^^ x := by rw [h]
    rw [← UInt8.xor_assoc, UInt8.xor_self, UInt8.zero_xor] at h2
    exact h2
  · rintro rfl; simp
set_option maxRecDepth 100000 in
set_option maxHeartbeats 2000000 in
theorem walk_SumTurned (a0 : ByteArray) (_w0 : a0.size ≤ maxLen) (a1 : Int) (_w1 : (Lit.int .i64 a1).wf = true) (a2 : Int) (w2 : (Lit.int .u8 a2).wf = true) (w : World) :
    Calls Try.prog 5 #[.string a0, .int .i64 a1, .int .u8 a2] w fun e w' => e = .returned (.bool true) ∧ Below w.heap.size w w' := by
  have kb := run_by (P := Try.prog) 9 27 5 Try.underlying9 Try.underlying27 Try.underlying5
  have kx : ∀ (w : World) (z : UInt8), (convert 27 9 (.slice (some ⟨w.heap.size, 0, none⟩) 1 1)).run Try.prog (w.alloc (.cells #[.int .u8 (z.toNat : Int)] 5)) = .ok (.string ⟨#[z]⟩) (w.alloc (.cells #[.int .u8 (z.toNat : Int)] 5)) :=
    fun w z => run_str _ _ 5 Try.underlying27 Try.underlying5 Try.underlying9 _ _ [z] 1 1 rfl (rd_alloc w _ _ _ [z] rfl (by simp))
  have hy2 : 0 ≤ a2 ∧ a2 < 256 := by simp [Lit.wf, IntKind.min, IntKind.max, IntKind.signed, IntKind.bits] at w2; omega
  obtain ⟨y, rfl⟩ : ∃ y : UInt8, a2 = (y.toNat : Int) := ⟨UInt8.ofNat a2.toNat, by simp; omega⟩
  clear _w0 _w1 hy2 w2
  by_cases hl0 : (3000 : Int) < (a0.size : Int)
  · go_enter Try.func5, Try.ntmps5
    go_wp2_with (go_at_call 9; refine (works_any _).mono ?_; rintro e w1 ⟨rfl, hb1⟩)
    go_ret
    exact ⟨rfl, hb1⟩
  have hd0 : decide ((3000 : Int) < (a0.size : Int)) = false := by simpa using hl0
  by_cases hl1 : a1 < 0
  · clear hl0
    have hd1 : decide (a1 < 0) = true := by simpa using hl1
    clear hl1
    go_enter Try.func5, Try.ntmps5
    go_wp2_with (go_at_call 9; refine (works_any _).mono ?_; rintro e w1 ⟨rfl, hb1⟩)
    go_ret
    exact ⟨rfl, hb1⟩
  have hd1 : decide (a1 < 0) = false := by simpa using hl1
  by_cases hl2 : (a0.size : Int) ≤ a1
  · clear hl0 hl1
    have hd2 : decide ((a0.size : Int) ≤ a1) = true := by simpa using hl2
    clear hl2
    go_enter Try.func5, Try.ntmps5
    go_wp2_with (go_at_call 9; refine (works_any _).mono ?_; rintro e w1 ⟨rfl, hb1⟩)
    go_ret
    exact ⟨rfl, hb1⟩
  have hd2 : decide ((a0.size : Int) ≤ a1) = false := by simpa using hl2
  obtain ⟨k, rfl⟩ : ∃ k : Nat, a1 = (k : Int) := ⟨a1.toNat, by omega⟩
  have hn0 : (a0.size : Int) ≤ 3000 := by omega
  have hk0 : (0 : Int) ≤ (k : Int) := by omega
  have hk1 : (k : Int) < (a0.size : Int) := by omega
  have hk2 : (k : Int) ≤ (a0.size : Int) := by omega
  have hk3 : (k : Int) + 1 ≤ (a0.size : Int) := by omega
  have hk4 : k < a0.size := by omega
  have hwr : IntKind.i64.wrap ((k : Int) + 1) = (k : Int) + 1 := IntWalk.i64_in _ (by omega)
  clear hl0 hl1 hl2
  have hxo := xor_u8 a0[k] y
  obtain ⟨z, hz⟩ : ∃ z, z = a0[k] ^^^ y := ⟨_, rfl⟩
  rw [← hz] at hxo
  have HZ := Lib.hid hz; clear hz
  obtain ⟨c, hc⟩ : ∃ c, c = a0.extract 0 k ++ ⟨#[z]⟩ ++ a0.extract (k + 1) a0.size := ⟨_, rfl⟩
  have HC : Hid (c.data.toList = a0.data.toList.take k ++ z :: a0.data.toList.drop (k + 1)) := by
    show _ = _
    rw [hc]; simp only [ByteArray.data_append, Array.toList_append, ext_head, ext_tail]; simp
  have HCS : Hid (c.size ≤ 3000) := by
    show _ ≤ _
    have h := congrArg List.length HC.out
    simp at h
    have h1 : a0.data.size = a0.size := rfl
    have h2 : c.data.size = c.size := rfl
    omega
  have HX : Hid ((((crcB 0#32 c.data.toList).toNat : Int) == ((crcB 0#32 a0.data.toList).toNat : Int)) = ((y.toNat : Int) == 0)) := by
    show _ = _
    rw [toNat_eq_iff, Bool.eq_iff_iff, HC.out]
    rw [show crcB 0#32 a0.data.toList = crcB 0#32 (a0.data.toList.take k ++ a0[k] :: a0.data.toList.drop (k + 1)) by rw [← parts_of a0 k hk4]]
    simp only [crcB, List.map_append, List.map_cons, decide_eq_true_eq, beq_iff_eq]
    rw [Crc.crc_turned _ _ _ _ _ z.toNat_lt (a0[k]).toNat_lt]
    rw [UInt8.toNat_inj, HZ.out, xor_self_iff]
    constructor
    · rintro rfl; simp
    · intro h; exact UInt8.toNat_inj.1 (by simpa using h)
  have HCD := Lib.hid hc; clear hc
  go_enter Try.func5, Try.ntmps5
  go_wp2_with (go_at_call 9; refine (works_any _).mono ?_; rintro e w1 ⟨rfl, hb1⟩)
  refine Reg.wp_region_ord [(false, 0), (false, 1), (false, 2), (false, 3), (false, 4), (false, 5), (false, 6), (false, 7), (false, 11), (false, 12), (false, 13), (false, 14), (true, 8), (true, 9), (false, 10), (false, 15), (false, 16)] (fun w' => Below w.heap.size w w') (by kernel_rfl) (by kernel_rfl) (fun d _ _ _ _ h => by cases d <;> exact h) hb1.drew ?_
  have hb0 := hb1.drew; clear hb1
  generalize w1.drew = W0 at hb0
  repeat (refine Reg.ord_quiet rfl rfl ?_; apply Exists.intro; refine ⟨fun w' hS => ?_, fun K hK => ?_⟩; (first | (obtain _h := hS; go_simp; rfl) | rfl); go_simp; refine hK _ ?_; clear hK K)
  refine Reg.ord_alone rfl rfl (fun K hK => ?_); go_simp
  have hb2 := below_al hb0 (.cells #[.int .u8 (z.toNat : Int)] 5)
  refine hK _ _ hb2 ?_; clear hK K
  have kx1 := kx W0 z
  refine Reg.ord_alone rfl rfl (fun K hK => ?_); go_simp
  refine hK _ _ hb2 ?_; clear hK K
  have hcat : ∀ W : World, (Op.stringOp .add (a0.extract 0 k) ⟨#[z]⟩).run Try.prog W = .ok (.string (a0.extract 0 k ++ ⟨#[z]⟩)) W := fun W => run_string_add_sum W _ _ (by rw [ByteArray.size_extract, show (⟨#[z]⟩ : ByteArray).size = 1 from rfl]; omega)
  have hcat2 : ∀ W : World, (Op.stringOp .add (a0.extract 0 k ++ ⟨#[z]⟩) (a0.extract (k + 1) a0.size)).run Try.prog W = .ok (.string c) W := fun W => by
    rw [HCD.out]; exact run_string_add_sum W _ _ (by have := HCS.out; rw [HCD.out, ByteArray.size_append] at this; omega)
  repeat (refine Reg.ord_quiet rfl rfl ?_; apply Exists.intro; refine ⟨fun w' hS => ?_, fun K hK => ?_⟩; (first | (obtain _h := hS; go_simp; rfl) | rfl); go_simp; refine hK _ ?_; clear hK K)
  refine Reg.ord_nil ?_
  clear hcat hcat2 kx1 hb0
  generalize W0.alloc (.cells #[.int .u8 (z.toNat : Int)] 5) = W1 at hb2
  go_wp2_with fail
  ((with_reducible refine (of_any _ _ _ c.data.toList (by simp) _ (by_rd _ _ _ (by have := HCS.out; omega))).mono ?_); rintro e w3 ⟨rfl, hb3⟩)
  have hb3 := below_more hb2 (below_more (by_below _ _ _) hb3); clear hb2
  go_wp2_with fail
  ((with_reducible refine (of_any _ _ _ a0.data.toList (by simp) _ (by_rd _ _ _ (by omega))).mono ?_); rintro e w4 ⟨rfl, hb4⟩)
  have hb4 := below_more hb3 (below_more (by_below _ _ _) hb4); clear hb3
  go_wp2_with fail
  go_ret
  refine ⟨?_, hb4⟩
  show Ending.returned (.bool ((((crcB 0#32 c.data.toList).toNat : Int) == ((crcB 0#32 a0.data.toList).toNat : Int)) == ((y.toNat : Int) == 0))) = _
  rw [HX.out]; simp
end Go.Proofs.Ytbagbjhpdjppnaa.Sum
