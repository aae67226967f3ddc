/- What a byte makes, of two bytes exclusive or each other, is that of both, exclusive or each other; no two make the same: the walk of the law. -/
import Derived.Test.YtbagbjhpdjppnaaLTurned
set_option linter.unusedVariables false
set_option linter.unusedSimpArgs false
namespace Go.Proofs.Ytbagbjhpdjppnaa.Sum
open Go.RowKit
set_option maxRecDepth 100000 in
set_option maxHeartbeats 2000000 in
theorem walk_SumTable (a0 : Int) (w0 : (Lit.int .u8 a0).wf = true) (a1 : Int) (w1 : (Lit.int .u8 a1).wf = true) (w : World) :
    Calls Try.prog 7 #[.int .u8 a0, .int .u8 a1] w fun e w' => e = .returned (.bool true) ∧ Below w.heap.size w w' := by
  obtain ⟨Z, hZ, zTab⟩ : ∃ Z, Z.size = 256 ∧ ∀ w, (zeroValue 24).run Try.prog w = .ok (.agg Z) w := ⟨_, by simp, (zero_of_info infoTab).1⟩
  have hy0 : 0 ≤ a0 ∧ a0 < 256 := by simp [Lit.wf, IntKind.min, IntKind.max, IntKind.signed, IntKind.bits] at w0; omega
  have hy1 : 0 ≤ a1 ∧ a1 < 256 := by simp [Lit.wf, IntKind.min, IntKind.max, IntKind.signed, IntKind.bits] at w1; omega
  obtain ⟨x, rfl⟩ : ∃ x : UInt8, a0 = (x.toNat : Int) := ⟨UInt8.ofNat a0.toNat, by simp; omega⟩
  obtain ⟨y, rfl⟩ : ∃ y : UInt8, a1 = (y.toNat : Int) := ⟨UInt8.ofNat a1.toNat, by simp; omega⟩
  clear w0 w1 hy0 hy1
  go_enter Try.func7, Try.ntmps7
  go_wp2_with (first | (go_at_call 9; refine (works_any _).mono ?_; rintro e w1 ⟨rfl, hb1⟩) | (go_at_call 10; refine (table_any _).mono ?_; rintro e w2 ⟨⟨T, hT, rfl⟩, hb2⟩; have HI : Hid ((Try.prog.info? 24).map (·.size) = some T.size) := by (rw [hT.1]; exact (zero_of_info infoTab).2)) | (refine wpList_store_row rfl 24 _ _ rfl w2.heap.size T rfl rfl 24 Z (heap_alloc_new _ _) ?h1 ?h2 ?h3 ?_))
  case h1 => exact HI.out
  case h2 => rw [hT.1]; exact hZ
  case h3 => exact isTab_one hT
  rw [World.setRow_alloc_new]
  have hcell : ∀ i, i < 256 → (w2.alloc (.cells T 24)).cell? ⟨w2.heap.size, i, none⟩ = some (.int .u32 ((Crc.tab i).toNat : Int)) := fun i hi => by
    rw [World.cell?_alloc_at _ _ _ _ rfl, hT.2 i hi, if_pos hi]
  have hB := below_al (below_more hb1 hb2) (.cells T 24)
  clear hb1 hb2 hT HI hZ
  obtain ⟨W, hW⟩ : ∃ W, W = w2.alloc (.cells T 24) := ⟨_, rfl⟩
  rw [← hW] at hcell hB ⊢
  obtain ⟨B, hBd⟩ : ∃ B, B = w2.heap.size := ⟨_, rfl⟩
  rw [← hBd] at hcell ⊢
  clear hW hBd
  have hxo := xor_u8 x y
  obtain ⟨z, hz⟩ : ∃ z, z = x ^^^ y := ⟨_, rfl⟩
  rw [← hz] at hxo
  have c0 := hcell 0 (by omega)
  have cx := hcell x.toNat x.toNat_lt
  have cy := hcell y.toNat y.toNat_lt
  have cz := hcell z.toNat z.toNat_lt
  rw [Crc.tab_zero] at c0
  have e1 : bits .xor .u32 ((Crc.tab x.toNat).toNat : Int) ((Crc.tab y.toNat).toNat : Int) = ((Crc.tab z.toNat).toNat : Int) := by
    rw [xor_bv, ← Crc.tab_xor, hz]; simp
  have HX : (((Crc.tab x.toNat).toNat : Int) == ((Crc.tab y.toNat).toNat : Int)) = ((x.toNat : Int) == (y.toNat : Int)) := by
    rw [toNat_eq_iff, Bool.eq_iff_iff]
    simp only [decide_eq_true_eq, beq_iff_eq]
    rw [Crc.tab_inj x.toNat_lt y.toNat_lt]; omega
  have bx := x.toNat_lt
  have by' := y.toNat_lt
  have bz := z.toNat_lt
  have ix0 : (0 : Int) ≤ (x.toNat : Int) := by omega
  have iy0 : (0 : Int) ≤ (y.toNat : Int) := by omega
  have iz0 : (0 : Int) ≤ (z.toNat : Int) := by omega
  have ix : (x.toNat : Int) < 256 := by omega
  have iy : (y.toNat : Int) < 256 := by omega
  have iz : (z.toNat : Int) < 256 := by omega
  clear hcell hz
  refine Reg.wp_region_ord [(false, 0), (false, 1), (false, 2), (false, 3), (false, 4), (false, 5), (false, 6), (false, 7), (false, 8), (false, 9), (false, 10), (false, 11), (false, 12), (false, 13), (false, 14), (false, 15), (false, 16), (false, 17), (false, 18), (false, 19), (false, 20), (false, 21), (false, 22), (false, 23), (false, 24), (false, 25), (false, 26), (false, 27), (false, 28), (false, 29), (false, 30), (false, 31), (false, 32), (false, 33), (false, 34)] (fun w' => w' = W.drew) (by kernel_rfl) (by kernel_rfl) (fun d _ _ _ _ h => by cases d <;> exact h) rfl ?_
  repeat (refine Reg.ord_quiet rfl rfl ?_; apply Exists.intro; refine ⟨fun w' hS => ?_, fun K hK => ?_⟩; (first | (obtain rfl := hS; go_simp; rfl) | rfl); go_simp; refine hK _ ?_; clear hK K)
  refine Reg.ord_nil ?_
  go_wp2_with fail
  go_ret
  exact ⟨rfl, hB.drew⟩
end Go.Proofs.Ytbagbjhpdjppnaa.Sum
