/- The sum of bytes: what each function of package sum, and of its reference, computes: contracts for every world. -/
import Derived.Test.YtdoaglcnncapdaaProg
import Derived.Test.YtdoaglcnncapdaaBase
import Derived.Test.YtdoaglcnncapdaaCrc
import Derived.Test.YtdoaglcnncapdaaRegion
set_option linter.unusedVariables false
set_option linter.unusedSimpArgs false
namespace Go.Proofs.Ytdoaglcnncapdaa.Sum
open Go.RowKit
open Go.Proofs.Ytdoaglcnncapdaa Go.Proofs.Ytdoaglcnncapdaa.Base
theorem xor_bv (a b : BitVec 32) : bits .xor .u32 (a.toNat : Int) (b.toNat : Int) = ((a ^^^ b).toNat : Int) := by
  rw [u32_xor_nat _ _ a.isLt b.isLt, BitVec.toNat_xor]
theorem poly_nat : (3988292384 : Int) = (Crc.poly.toNat : Int) := by decide
theorem lsb_iff (x : BitVec 32) : x.getLsbD 0 = true ↔ x.toNat % 2 = 1 := by
  simp [BitVec.getLsbD, Nat.testBit_zero]
theorem half_nat (x : BitVec 32) : @Eq Int (@HDiv.hDiv Int Int Int _ (Int.ofNat x.toNat) (2 : Int)) ((x >>> 1).toNat : Int) := by
  show ((x.toNat : Nat) : Int) / (2 : Int) = _
  rw [BitVec.toNat_ushiftRight, Nat.shiftRight_eq_div_pow]; simp
theorem step_odd (x : BitVec 32) (h : ((x.toNat : Int) % 2 == 1) = true) : bits .xor .u32 ((x.toNat : Int) / 2) 3988292384 = ((Crc.step x).toNat : Int) := by
  have h1 : x.getLsbD 0 = true := by rw [lsb_iff]; simp at h; omega
  rw [show ((x.toNat : Int) / 2 : Int) = ((x >>> 1).toNat : Int) from half_nat x, poly_nat, xor_bv]; unfold Crc.step; rw [if_pos h1]
theorem step_evn (x : BitVec 32) (h : ((x.toNat : Int) % 2 == 1) = false) : (x.toNat : Int) / 2 = ((Crc.step x).toNat : Int) := by
  have h1 : ¬ x.getLsbD 0 = true := by rw [lsb_iff]; simp at h; omega
  rw [show ((x.toNat : Int) / 2 : Int) = ((x >>> 1).toNat : Int) from half_nat x]; unfold Crc.step; rw [if_neg h1, BitVec.xor_zero]

set_option maxHeartbeats 400000 in
theorem step_any (z : Int) (v : BitVec 32) (hz : z = v.toNat) (w : World) :
    Calls Try.prog 70 #[.int .u32 z] w fun e w' => e = .returned (.int .u32 ((Crc.step8 v).toNat : Int)) ∧ w = w' := by
  subst hz
  have hv := v.isLt
  go_enter Try.func70, Try.ntmps70
  go_wp2
  go_loop [0, 3, 5, 6] (fun t i _ _ => ∃ k : Nat, k ≤ 8 ∧ i = .int .i64 k ∧ t = .int .u32 ((Crc.steps k v).toNat : Int)) (fun _ i _ _ => (8 - (intOf i).toNat))
  case atStart => exact ⟨0, by omega, rfl, rfl⟩
  case round =>
    obtain ⟨k, hk, rfl, rfl⟩ := hrel
    have hn := (Crc.steps k v).isLt
    by_cases hlt : k < 8
    · have e1 : Hid _ := Lib.hid (Crc.steps_succ k v)
      go_wp2
      all_goals
        go_round
        case rel => exact ⟨k + 1, by omega, by go_num, val_int (by rw [e1.out]; first | exact step_odd _ ‹_› | exact step_evn _ ‹_›)⟩
        case measure => simp [intOf]; omega
    · obtain rfl : k = 8 := by omega
      go_wp2
      go_ret
      exact ⟨rfl, rfl⟩

theorem and_bv (x : BitVec 32) : bits .and .u32 (x.toNat : Int) 1 = (x.toNat : Int) % 2 := by
  have := u32_and_nat x.toNat 1 x.isLt (by omega)
  rw [show ((1 : Nat) : Int) = 1 by rfl] at this
  rw [this, Nat.and_one_is_mod]; rfl

theorem infoTab : (Try.prog.info? 181).map (fun i => (i.zero, i.size)) = some (some (.agg (Array.replicate 256 (.int .u32 0))), 256) := by kernel_rfl
/-- The table, its first k entries made. -/
def IsTab (k : Nat) (T : Array Value) : Prop := T.size = 256 ∧ ∀ j, j < 256 → T[j]? = some (.int .u32 (if j < k then ((Crc.tab j).toNat : Int) else 0))
theorem isTab_zero : IsTab 0 (Array.replicate 256 (.int .u32 0)) := ⟨by simp, fun j hj => by simp [hj]⟩
theorem isTab_succ {k : Nat} {T : Array Value} (h : IsTab k T) (hk : k < 256) (x : Int) (hx : x = ((Crc.tab k).toNat : Int)) : IsTab (k + 1) (T.setIfInBounds k (.int .u32 x)) := by
  subst hx
  refine ⟨by simpa using h.1, fun j hj => ?_⟩
  rw [Array.getElem?_setIfInBounds]
  by_cases e : k = j
  · subst e; simp [h.1, hk]
  · rw [if_neg e, h.2 j hj]
    by_cases h' : j < k
    · simp [h', show j < k + 1 by omega]
    · simp [h', show ¬ j < k + 1 by omega]
theorem conv_u32 (k : Nat) (hk : k < 256) : ((k : Int)) = ((BitVec.ofNat 32 k).toNat : Int) := by
  rw [BitVec.toNat_ofNat, Nat.mod_eq_of_lt (by omega)]
theorem step_mul (x : BitVec 32) : bits .xor .u32 ((x.toNat : Int) / (2 : Int)) (bits .and .u32 (x.toNat : Int) 1 * 3988292384 % 4294967296) = ((Crc.step x).toNat : Int) := by
  rw [and_bv]
  rcases Int.emod_two_eq (x.toNat : Int) with h | h
  · rw [h, ← step_evn x (by simp [h])]
    rw [show ((x.toNat : Int) / (2 : Int) : Int) = ((x >>> 1).toNat : Int) from half_nat x]
    have := xor_bv (x >>> 1) 0#32
    simpa using this
  · rw [h, ← step_odd x (by simp [h])]; rfl

theorem isTab_one {k : Nat} {T : Array Value} (hT : IsTab k T) : T.all (·.oneCell') = true := by
  rw [Array.all_eq_true]
  intro j hj
  have := hT.2 j (by rw [← hT.1]; exact hj)
  rw [Array.getElem?_eq_getElem hj] at this
  injection this with this
  rw [this]; rfl
set_option maxRecDepth 100000 in
set_option maxHeartbeats 400000 in
theorem table_any (w : World) :
    Calls Try.prog 89 #[] w fun e w' => (∃ T, IsTab 256 T ∧ e = .returned (.agg T)) ∧ Below w.heap.size w w' := by
  obtain ⟨Z, hZ, zTab⟩ : ∃ Z, IsTab 0 Z ∧ ∀ w, (zeroValue 181).run Try.prog w = .ok (.agg Z) w := ⟨_, isTab_zero, (zero_of_info infoTab).1⟩
  have hzs := hZ.1
  go_enter Try.func89, Try.ntmps89
  go_wp2
  go_loopw [2, 3, 4, 5] (fun _ _ i _ wr => ∃ (k : Nat) (T : Array Value), k ≤ 256 ∧ IsTab k T ∧ i = .int .i64 k ∧ wr = (w.alloc (Obj.cells Z 181)).alloc (Obj.cells T 181)) (fun _ _ i _ _ => (256 - (intOf i).toNat))
  case atStart => exact ⟨0, _, by omega, hZ, rfl, rfl⟩
  case round =>
    obtain ⟨k, T, hk, hT, rfl, rfl⟩ := hrel
    have hs := hT.1
    have h1T := isTab_one hT
    have HZ := Lib.hid hZ; clear hZ
    have HT := Lib.hid hT; clear hT
    have HS := Lib.hid hs; clear hs
    have HZS := Lib.hid hzs; clear hzs
    have H1 := Lib.hid h1T; clear h1T
    clear zTab
    by_cases hlt : k < 256
    · have hdec : decide ((k : Int) < 256) = true := by simpa using (show (k : Int) < 256 by omega)
      have hmod : (k : Int) % 4294967296 = k := by omega
      go_wp2_with fail
      go_loop [3, 9, 10, 11, 12, 13, 14, 15, 16, 17] (fun x i _ _ _ _ _ _ _ _ => ∃ j : Nat, j ≤ 8 ∧ i = .int .i64 j ∧ x = .int .u32 ((Crc.steps j (BitVec.ofNat 32 k)).toNat : Int)) (fun _ i _ _ _ _ _ _ _ _ => (8 - (intOf i).toNat))
      case atStart => exact ⟨0, by omega, rfl, val_int (conv_u32 k hlt)⟩
      case round =>
        obtain ⟨j, hj, rfl, rfl⟩ := hrel
        have hn := (Crc.steps j (BitVec.ofNat 32 k)).isLt
        by_cases hjl : j < 8
        · have e1 := Lib.hid (Crc.steps_succ j (BitVec.ofNat 32 k))
          go_wp2_with fail
          go_round
          case rel => exact ⟨j + 1, by omega, by go_num, val_int (by rw [e1.out]; exact step_mul _)⟩
          case measure => simp [intOf]; omega
        · obtain rfl : j = 8 := by omega
          have hts : k < T.size := by rw [HS.out]; exact hlt
          go_wp2_with fail
          go_roundw
          case rel => exact ⟨k + 1, _, by omega, isTab_succ HT.out hlt _ rfl, by go_num, rfl⟩
          case measure => simp [intOf]; omega
    · obtain rfl : k = 256 := by omega
      have hg1 : ((w.alloc (Obj.cells Z 181)).alloc (Obj.cells T 181)).heap[w.heap.size + 1]? = some (.cells T 181 (0, 0)) := heap_alloc2_new w _ _
      have hg0 : ((w.alloc (Obj.cells Z 181)).alloc (Obj.cells T 181)).heap[w.heap.size]? = some (.cells Z 181 (0, 0)) := heap_alloc2_old w _ _
      have HI : Hid ((Try.prog.info? 181).map (·.size) = some T.size) := by rw [HS.out]; exact (zero_of_info infoTab).2
      have HZT : Hid (Z.size = T.size) := HZS.out.trans HS.out.symm
      go_wp2_with (first | (refine wpList_load_row rfl 181 _ rfl (w.heap.size + 1) rfl 181 T (0, 0) _ hg1 Try.underlying181 rfl HI.out ?_) | (refine wpList_store_row rfl 181 _ _ rfl w.heap.size T rfl rfl 181 Z hg0 HI.out HZT.out H1.out ?_))
      have hg2 : (((w.alloc (Obj.cells Z 181)).alloc (Obj.cells T 181)).setRow w.heap.size T).heap[w.heap.size]? = some (.cells T 181 (0, 0)) := setRow_heap _ _ Z _ _ _ hg0
      refine bodyPost_ret (v := .agg T) (results_cell_row rfl _ _ w.heap.size 181 T (0, 0) _ rfl hg2 Try.underlying181 rfl HI.out) rfl ⟨⟨T, HT.out, rfl⟩, ?_⟩
      exact below_setRow (((Below.refl _ _).alloc (Nat.le_refl _) _).alloc (by simp) _) (Nat.le_refl _) _

def crcB (s : BitVec 32) (l : List UInt8) : BitVec 32 := Crc.crc s (l.map UInt8.toNat)
def foldB (s : BitVec 32) (l : List UInt8) : BitVec 32 := l.foldl (fun x c => Crc.upd x c.toNat) s
theorem crcB_fold (s : BitVec 32) (l : List UInt8) : crcB s l = ~~~ (foldB (~~~ s) l) := by
  simp [crcB, Crc.crc, foldB, List.foldl_map]
theorem foldB_snoc (s : BitVec 32) (l : List UInt8) (k : Nat) (h : k < l.length) : foldB s (l.take (k + 1)) = Crc.upd (foldB s (l.take k)) (l[k].toNat) := by
  unfold foldB; rw [List.take_succ_eq_append_getElem h, List.foldl_append]; rfl

theorem not_bv (s : BitVec 32) : bits .xor .u32 IntKind.u32.max (s.toNat : Int) = ((~~~ s).toNat : Int) := by
  have := xor_bv (BitVec.allOnes 32) s
  rw [show ((BitVec.allOnes 32).toNat : Int) = IntKind.u32.max by decide] at this
  rw [this, BitVec.allOnes_xor]
theorem upd_bv (x : BitVec 32) (c : UInt8) : ((Crc.upd x c.toNat).toNat : Int) = bits .xor .u32 (((Crc.tab ((x.toNat ^^^ c.toNat) % 256)).toNat : Int)) ((x.toNat : Int) / (256 : Int)) := by
  rw [Crc.upd_tab x _ c.toNat_lt]
  have h : ((x.toNat : Int) / (256 : Int)) = ((x >>> 8).toNat : Int) := by
    rw [BitVec.toNat_ushiftRight, Nat.shiftRight_eq_div_pow]; simp
  rw [h, xor_bv]
theorem idx_bv (x : Nat) (c : UInt8) : bits .xor .u8 ((x : Int) % (256 : Int)) (c.toNat : Int) = (((x ^^^ c.toNat) % 256 : Nat) : Int) := by
  have := u8_xor_nat (x % 256) c.toNat (by omega) c.toNat_lt
  rw [show ((x % 256 : Nat) : Int) = (x : Int) % (256 : Int) by simp] at this
  rw [this]
  congr 1
  rw [show (256 : Nat) = 2 ^ 8 by rfl, Nat.xor_mod_two_pow]
  rw [Nat.mod_eq_of_lt (show c.toNat < 2 ^ 8 from c.toNat_lt)]
set_option maxRecDepth 100000 in
set_option maxHeartbeats 400000 in
theorem more_any (z : Int) (s : BitVec 32) (hz : z = s.toNat) (A : Option Addr) (n c : Nat) (l : List UInt8) (hn : l.length = n) (w : World) (hA : Rd w A l) :
    Calls Try.prog 83 #[.int .u32 z, .slice A n c] w fun e w' => e = .returned (.int .u32 ((crcB s l).toNat : Int)) ∧ Below w.heap.size w w' := by
  subst hz
  obtain ⟨Z, hZ, zTab⟩ : ∃ Z, Z.size = 256 ∧ ∀ w, (zeroValue 181).run Try.prog w = .ok (.agg Z) w := ⟨_, by simp, (zero_of_info infoTab).1⟩
  have hsl := s.isLt
  go_enter Try.func83, Try.ntmps83
  go_wp2_with (first | (go_at_call 89; refine (table_any _).mono ?_; rintro e w1 ⟨⟨T, hT, rfl⟩, hb1⟩; have HI : Hid ((Try.prog.info? 181).map (·.size) = some T.size) := by (rw [hT.1]; exact (zero_of_info infoTab).2)) | (refine wpList_store_row rfl 181 _ _ rfl w1.heap.size T rfl rfl 181 Z (heap_alloc_new _ _) ?h1 ?h2 ?h3 ?_))
  case h1 => exact HI.out
  case h2 => rw [hT.1]; exact hZ
  case h3 => exact isTab_one hT
  rw [World.setRow_alloc_new]
  have hT1 := Lib.hid hT; clear hT
  have hnl : n ≤ 140737488355328 := by have := hA.1; omega
  have hA1 := hA.below hb1
  go_loop [6, 8, 14, 15, 16, 17, 18, 19, 20, 21, 22, 23, 24, 25, 26, 27] (fun x _ i _ _ _ _ _ _ _ _ _ _ _ _ _ => ∃ k : Nat, k ≤ n ∧ i = .int .i64 k ∧ x = .int .u32 ((foldB (~~~ s) (l.take k)).toNat : Int)) (fun _ _ i _ _ _ _ _ _ _ _ _ _ _ _ _ => n - (intOf i).toNat)
  case atStart => exact ⟨0, by omega, rfl, val_int (by rw [not_bv]; rfl)⟩
  case round =>
    obtain ⟨k, hk, rfl, rfl⟩ := hrel
    by_cases hlt : k < n
    · have hkl : k < l.length := by omega
      obtain ⟨b, off, rfl, hc⟩ := hA1.2 (by omega)
      have hck := hc k hkl
      have hbl := World.block_lt_of_cell? w1 _ hck
      have hcell : (w1.alloc (.cells T 181)).cell? ⟨b, off + k, none⟩ = some (.int .u8 (l[k].toNat : Int)) := by rw [World.cell?_alloc_past _ _ _ hbl]; exact hck
      obtain ⟨m, hmd⟩ : ∃ m, m = ((foldB (~~~ s) (l.take k)).toNat ^^^ l[k].toNat) % 256 := ⟨_, rfl⟩
      have hm : m < 256 := by omega
      have hidx := idx_bv (foldB (~~~ s) (l.take k)).toNat l[k]
      rw [← hmd] at hidx
      have hc2 : (w1.alloc (.cells T 181)).cell? ⟨w1.heap.size, m, none⟩ = some (.int .u32 ((Crc.tab m).toNat : Int)) := by
        rw [World.cell?_alloc_at _ _ _ _ rfl, hT1.out.2 m hm, if_pos hm]
      have HM := Lib.hid hmd
      have HN : Hid (((foldB (~~~ s) (l.take (k + 1))).toNat : Int) = bits .xor .u32 ((Crc.tab m).toNat : Int) (((foldB (~~~ s) (l.take k)).toNat : Int) / (256 : Int))) := by
        rw [foldB_snoc _ _ _ hkl, upd_bv, hmd]; rfl
      clear hmd hck hbl hc hA hA1
      have hX := (foldB (~~~ s) (l.take k)).isLt
      go_wp2
      go_round
      case rel => exact ⟨k + 1, by omega, by go_num, val_int HN.out.symm⟩
      case measure => simp [intOf]; omega
    · obtain rfl : k = n := by omega
      go_wp2
      go_ret
      refine ⟨ret_int ?_, hb1.alloc (by have := hb1.size; omega) _⟩
      rw [not_bv, crcB_fold, List.take_of_length_le (by omega)]
set_option maxHeartbeats 400000 in
theorem of_any (A : Option Addr) (n c : Nat) (l : List UInt8) (hn : l.length = n) (w : World) (hA : Rd w A l) :
    Calls Try.prog 68 #[.slice A n c] w fun e w' => e = .returned (.int .u32 ((crcB 0#32 l).toNat : Int)) ∧ Below w.heap.size w w' := by
  go_enter Try.func68, Try.ntmps68
  go_wp2_with (go_at_call 83; refine (more_any 0 0#32 rfl _ _ _ l hn _ hA).mono ?_; rintro e w1 ⟨rfl, hb1⟩)
  go_ret
  exact ⟨rfl, hb1⟩
theorem not_sub (s : BitVec 32) : (4294967295 : Int) - (s.toNat : Int) = ((~~~ s).toNat : Int) := by
  rw [BitVec.toNat_not]; have := s.isLt; omega
theorem xor_byte (x : BitVec 32) (c : UInt8) : bits .xor .u32 (x.toNat : Int) (c.toNat : Int) = ((x ^^^ BitVec.ofNat 32 c.toNat).toNat : Int) := by
  have := xor_bv x (BitVec.ofNat 32 c.toNat)
  rwa [BitVec.toNat_ofNat, Nat.mod_eq_of_lt (by have := c.toNat_lt; omega)] at this
set_option maxHeartbeats 400000 in
theorem ref_more (z : Int) (s : BitVec 32) (hz : z = s.toNat) (b : ByteArray) (hn : b.size ≤ 140737488355328) (w : World) :
    Calls Try.prog 51 #[.int .u32 z, .string b] w fun e w' => e = .returned (.int .u32 ((crcB s b.data.toList).toNat : Int)) ∧ w = w' := by
  subst hz
  have hsl := s.isLt
  go_enter Try.func51, Try.ntmps51
  go_wp2
  go_loop [5, 6, 9, 10, 11, 12, 15, 16, 17, 18, 19, 20, 21] (fun x i _ _ _ _ _ _ _ _ _ _ _ => ∃ k : Nat, k ≤ b.size ∧ i = .int .i64 k ∧ x = .int .u32 ((foldB (~~~ s) (b.data.toList.take k)).toNat : Int)) (fun _ i _ _ _ _ _ _ _ _ _ _ _ => b.size - (intOf i).toNat)
  case atStart => exact ⟨0, by omega, rfl, val_int (by rw [not_sub]; rfl)⟩
  case round =>
    obtain ⟨k, hk, rfl, rfl⟩ := hrel
    by_cases hlt : k < b.size
    · have HS : Hid (Crc.step8 (foldB (~~~ s) (b.data.toList.take k) ^^^ BitVec.ofNat 32 b[k].toNat) = foldB (~~~ s) (b.data.toList.take (k + 1))) := by
        rw [foldB_snoc _ _ _ (by simpa using hlt)]; rfl
      have hX := (foldB (~~~ s) (b.data.toList.take k)).isLt
      have hxor := xor_byte (foldB (~~~ s) (b.data.toList.take k)) b[k]
      obtain ⟨y, hy⟩ : ∃ y, y = foldB (~~~ s) (b.data.toList.take k) ^^^ BitVec.ofNat 32 b[k].toNat := ⟨_, rfl⟩
      rw [← hy] at hxor HS
      have HY := Lib.hid hy; clear hy
      have hyl := y.isLt
      have hbk := b[k].toNat_lt
      go_wp2_with (go_at_call 70; refine (step_any _ y rfl _).mono ?_; rintro e w1 ⟨rfl, rfl⟩)
      go_round
      case rel => exact ⟨k + 1, by omega, by go_num, val_int (by rw [HS.out])⟩
      case measure => simp [intOf]; omega
    · obtain rfl : k = b.size := by omega
      have hX := (foldB (~~~ s) (b.data.toList.take b.size)).isLt
      go_wp2
      go_ret
      refine ⟨ret_int ?_, rfl⟩
      rw [not_sub, crcB_fold, List.take_of_length_le (by simp)]

end Go.Proofs.Ytdoaglcnncapdaa.Sum
