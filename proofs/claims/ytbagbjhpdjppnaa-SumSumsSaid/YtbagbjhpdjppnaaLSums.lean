/- The sum of any bytes, behind any sum, and what any byte makes, is just what the document says: the walk of the law. -/
import Derived.Test.YtbagbjhpdjppnaaSum
import Derived.Test.YtbagbjhpdjppnaaRegion
set_option linter.unusedVariables false
set_option linter.unusedSimpArgs false
namespace Go.Proofs.Ytbagbjhpdjppnaa.Sum
open Go.RowKit
set_option maxRecDepth 100000 in
set_option maxHeartbeats 2000000 in
theorem walk_SumSums (a0 : Int) (w0 : (Lit.int .u32 a0).wf = true) (a1 : ByteArray) (_w1 : a1.size ≤ maxLen) (a2 : Int) (w2 : (Lit.int .u8 a2).wf = true) (w : World) :
    Calls Try.prog 3 #[.int .u32 a0, .string a1, .int .u8 a2] w fun e w' => e = .returned (.bool true) ∧ Below w.heap.size w w' := by
  obtain ⟨Z, hZ, zTab⟩ : ∃ Z, Z.size = 256 ∧ ∀ w, (zeroValue 24).run Try.prog w = .ok (.agg Z) w := ⟨_, by simp, (zero_of_info infoTab).1⟩
  have kb := run_by (P := Try.prog) 9 27 5 Try.underlying9 Try.underlying27 Try.underlying5
  have hx : 0 ≤ a0 ∧ a0 < 4294967296 := by simp [Lit.wf, IntKind.min, IntKind.max, IntKind.signed, IntKind.bits] at w0; omega
  have hy : 0 ≤ a2 ∧ a2 < 256 := by simp [Lit.wf, IntKind.min, IntKind.max, IntKind.signed, IntKind.bits] at w2; omega
  obtain ⟨s, rfl⟩ : ∃ s : BitVec 32, a0 = (s.toNat : Int) := ⟨BitVec.ofNat 32 a0.toNat, by simp; omega⟩
  obtain ⟨i, rfl⟩ : ∃ i : Nat, a2 = (i : Int) := ⟨a2.toNat, by omega⟩
  obtain ⟨hx0, hx1⟩ := hx
  obtain ⟨hy0, hy1⟩ := hy
  clear w0 w2 _w1
  by_cases hlen : (3000 : Int) < (a1.size : Int)
  · go_enter Try.func3, Try.ntmps3
    go_wp2_with (go_at_call 9; refine (works_any _).mono ?_; rintro e w1 ⟨rfl, hb1⟩)
    go_ret
    exact ⟨rfl, hb1⟩
  · have hd : decide ((3000 : Int) < (a1.size : Int)) = false := by simpa using hlen
    have HL : Hid (a1.size ≤ 3000) := by show a1.size ≤ 3000; omega
    clear hlen
    go_enter Try.func3, Try.ntmps3
    go_wp2_with (first | (go_at_call 9; refine (works_any _).mono ?_; rintro e w1 ⟨rfl, hb1⟩) | (go_at_call 10; refine (table_any _).mono ?_; rintro e w2 ⟨⟨T, hT, rfl⟩, hb2⟩; have HI : Hid ((Try.prog.info? 24).map (·.size) = some T.size) := by (rw [hT.1]; exact (zero_of_info infoTab).2)) | (refine wpList_store_row rfl 24 _ _ rfl w2.heap.size T rfl rfl 24 Z (heap_alloc_new _ _) ?h1 ?h2 ?h3 ?_))
    case h1 => exact HI.out
    case h2 => rw [hT.1]; exact hZ
    case h3 => exact isTab_one hT
    rw [World.setRow_alloc_new]
    have hi : i < 256 := by omega
    have hcell : (w2.alloc (.cells T 24)).cell? ⟨w2.heap.size, i, none⟩ = some (.int .u32 ((Crc.tab i).toNat : Int)) := by
      rw [World.cell?_alloc_at _ _ _ _ rfl, hT.2 i hi, if_pos hi]
    have hB := below_al (below_more hb1 hb2) (.cells T 24)
    have hs1 : w2.heap.size < (w2.alloc (.cells T 24)).heap.size := by simp
    clear hb1 hb2 hT HI hZ
    obtain ⟨W, hW⟩ : ∃ W, W = w2.alloc (.cells T 24) := ⟨_, rfl⟩
    rw [← hW] at hcell hB hs1 ⊢
    obtain ⟨B, hBd⟩ : ∃ B, B = w2.heap.size := ⟨_, rfl⟩
    rw [← hBd] at hcell hs1 ⊢
    clear hW hBd
    have hs0 := s.isLt
    have hwr : IntKind.u32.wrap (i : Int) = (i : Int) := by rw [IntKind.wrap_u32']; omega
    have hkeep : ∀ w1 w2 : World, (w1.cell? ⟨B, i, none⟩ = some (.int .u32 ((Crc.tab i).toNat : Int)) ∧ B < w1.heap.size ∧ Below w.heap.size w w1) → Below w1.heap.size w1 w2 →
        (w2.cell? ⟨B, i, none⟩ = some (.int .u32 ((Crc.tab i).toNat : Int)) ∧ B < w2.heap.size ∧ Below w.heap.size w w2) :=
      fun w1 w2 ⟨h1, h2, h3⟩ hb => ⟨by rw [hb.cell h2]; exact h1, Nat.lt_of_lt_of_le h2 hb.size, below_more h3 hb⟩
    have hS0 : W.drew.cell? ⟨B, i, none⟩ = some (.int .u32 ((Crc.tab i).toNat : Int)) ∧ B < W.drew.heap.size ∧ Below w.heap.size w W.drew := ⟨hcell, hs1, hB.drew⟩
    clear hB hs1 hcell
    refine Reg.wp_region_ord [(false, 0), (false, 1), (false, 2), (false, 3), (false, 6), (false, 7), (true, 4), (true, 5), (true, 8), (false, 9), (false, 10), (false, 11), (false, 12), (false, 15), (true, 13), (true, 14), (true, 16), (false, 17), (false, 18), (false, 19), (false, 20), (false, 21), (false, 22), (false, 23), (false, 24), (true, 25), (false, 26), (false, 27), (false, 28)]
      (fun w' => w'.cell? ⟨B, i, none⟩ = some (.int .u32 ((Crc.tab i).toNat : Int)) ∧ B < w'.heap.size ∧ Below w.heap.size w w') (by kernel_rfl) (by kernel_rfl) (fun d _ _ _ _ h => by cases d <;> exact h) hS0 ?_
    generalize W.drew = W0 at hS0
    repeat (refine Reg.ord_quiet rfl rfl ?_; apply Exists.intro; refine ⟨fun w' hS => ?_, fun K hK => ?_⟩; (first | (obtain ⟨hS1, hS2, hS3⟩ := hS; go_simp; rfl) | rfl); go_simp; refine hK _ ?_; clear hK K)
    refine Reg.ord_alone rfl rfl (fun K hK => ?_); go_simp
    have hR := by_rd W0 5 a1 (by have := HL.out; omega)
    have hS1 := hkeep _ _ hS0 (by_below W0 5 a1)
    refine hK _ _ hS1 ?_; clear hK K; clear hS0
    repeat (refine Reg.ord_quiet rfl rfl ?_; apply Exists.intro; refine ⟨fun w' hS => ?_, fun K hK => ?_⟩; (first | (obtain ⟨hS1, hS2, hS3⟩ := hS; go_simp; rfl) | rfl); go_simp; refine hK _ ?_; clear hK K)
    refine Reg.ord_alone rfl rfl (fun K hK => ?_); go_simp
    refine (more_any _ s rfl _ _ _ a1.data.toList (by simp) _ hR).mono ?_; rintro e w3 ⟨rfl, hb3⟩
    have hS3 := hkeep _ _ hS1 hb3
    refine hK _ _ hS3 ?_; clear hK K; clear hS1 hR hb3
    repeat (refine Reg.ord_quiet rfl rfl ?_; apply Exists.intro; refine ⟨fun w' hS => ?_, fun K hK => ?_⟩; (first | (obtain ⟨hS1, hS2, hS3⟩ := hS; go_simp; rfl) | rfl); go_simp; refine hK _ ?_; clear hK K)
    refine Reg.ord_alone rfl rfl (fun K hK => ?_); go_simp
    refine (ref_more _ s rfl a1 (by have := HL.out; omega) _).mono ?_; rintro e w4 ⟨rfl, rfl⟩
    refine hK _ _ hS3 ?_; clear hK K
    repeat (refine Reg.ord_quiet rfl rfl ?_; apply Exists.intro; refine ⟨fun w' hS => ?_, fun K hK => ?_⟩; (first | (obtain ⟨hS1, hS2, hS3⟩ := hS; go_simp; rfl) | rfl); go_simp; refine hK _ ?_; clear hK K)
    refine Reg.ord_alone rfl rfl (fun K hK => ?_); go_simp
    have hR := by_rd w3 5 a1 (by have := HL.out; omega)
    have hS4 := hkeep _ _ hS3 (by_below w3 5 a1)
    refine hK _ _ hS4 ?_; clear hK K; clear hS3
    repeat (refine Reg.ord_quiet rfl rfl ?_; apply Exists.intro; refine ⟨fun w' hS => ?_, fun K hK => ?_⟩; (first | (obtain ⟨hS1, hS2, hS3⟩ := hS; go_simp; rfl) | rfl); go_simp; refine hK _ ?_; clear hK K)
    refine Reg.ord_alone rfl rfl (fun K hK => ?_); go_simp
    refine (of_any _ _ _ a1.data.toList (by simp) _ hR).mono ?_; rintro e w5 ⟨rfl, hb5⟩
    have hS5 := hkeep _ _ hS4 hb5
    refine hK _ _ hS5 ?_; clear hK K; clear hS4 hR hb5
    repeat (refine Reg.ord_quiet rfl rfl ?_; apply Exists.intro; refine ⟨fun w' hS => ?_, fun K hK => ?_⟩; (first | (obtain ⟨hS1, hS2, hS3⟩ := hS; go_simp; rfl) | rfl); go_simp; refine hK _ ?_; clear hK K)
    refine Reg.ord_alone rfl rfl (fun K hK => ?_); go_simp
    refine (ref_more 0 0#32 rfl a1 (by have := HL.out; omega) _).mono ?_; rintro e w6 ⟨rfl, rfl⟩
    refine hK _ _ hS5 ?_; clear hK K
    repeat (refine Reg.ord_quiet rfl rfl ?_; apply Exists.intro; refine ⟨fun w' hS => ?_, fun K hK => ?_⟩; (first | (obtain ⟨hS1, hS2, hS3⟩ := hS; go_simp; rfl) | rfl); go_simp; refine hK _ ?_; clear hK K)
    refine Reg.ord_alone rfl rfl (fun K hK => ?_); go_simp
    ((with_reducible refine (step_any _ (BitVec.ofNat 32 i) (conv_u32 i hi) _).mono ?_); rintro e w7 ⟨rfl, rfl⟩)
    refine hK _ _ hS5 ?_; clear hK K
    repeat (refine Reg.ord_quiet rfl rfl ?_; apply Exists.intro; refine ⟨fun w' hS => ?_, fun K hK => ?_⟩; (first | (obtain ⟨hS1, hS2, hS3⟩ := hS; go_simp; rfl) | rfl); go_simp; refine hK _ ?_; clear hK K)
    refine Reg.ord_nil ?_
    go_wp2
    go_ret
    refine ⟨?_, hS5.2.2⟩
    rw [show Crc.step8 (BitVec.ofNat 32 i) = Crc.tab i from rfl]
    simp
end Go.Proofs.Ytbagbjhpdjppnaa.Sum
