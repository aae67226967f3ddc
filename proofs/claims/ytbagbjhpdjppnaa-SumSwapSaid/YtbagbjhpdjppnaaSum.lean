/- The sum of bytes: what each function of package sum, and of its reference, computes: contracts for every world. -/
import Derived.Test.YtbagbjhpdjppnaaProg
import Derived.Test.YtbagbjhpdjppnaaCrc
import Derived.WalkKit
import Derived.WalkSpells
import Derived.WalkLawsBesides
import Derived.Outline
import Derived.Deep.RegionHeld3
import Derived.Laws.IdiomStrings
import Derived.Laws.BytesArg
import Derived.Deep.QuietTactic
import Derived.BigQuiet
import Derived.Laws.BitsAllLaws
import Derived.Deep.WholeRow
import Derived.Lib.Hide
import Derived.Lib.SlBytesConst
set_option linter.unusedVariables false
set_option linter.unusedSimpArgs false
namespace Go.Proofs.Ytbagbjhpdjppnaa.Sum
open Go.RowKit
open Go.Proofs.Ytbagbjhpdjppnaa
theorem ret_int {k : IntKind} {a b : Int} (h : a = b) : Ending.returned (.int k a) = .returned (.int k b) := by rw [h]
theorem val_int {k : IntKind} {a b : Int} (h : a = b) : Value.int k a = .int k b := by rw [h]
theorem xor_bv (a b : BitVec 32) : bits .xor .u32 (a.toNat : Int) (b.toNat : Int) = ((a ^^^ b).toNat : Int) := by
  rw [u32_xor_nat _ _ a.isLt b.isLt, BitVec.toNat_xor]
theorem poly_nat : (3988292384 : Int) = (Crc.poly.toNat : Int) := by decide
theorem lsb_iff (x : BitVec 32) : x.getLsbD 0 = true ↔ x.toNat % 2 = 1 := by
  simp [BitVec.getLsbD, Nat.testBit_zero]
theorem half_nat (x : BitVec 32) : @Eq Int (@HDiv.hDiv Int Int Int _ (Int.ofNat x.toNat) (2 : Int)) ((x >>> 1).toNat : Int) := by
  show ((x.toNat : Nat) : Int) / (2 : Int) = _
  rw [BitVec.toNat_ushiftRight, Nat.shiftRight_eq_div_pow]; simp
theorem step_odd (x : BitVec 32) (h : ((x.toNat : Int) % 2 == 1) = true) : bits .xor .u32 ((x.toNat : Int) / 2) 3988292384 = ((Crc.step x).toNat : Int) := by
  have h1 : x.getLsbD 0 = true := by rw [lsb_iff]; simp at h; omega
  rw [show ((x.toNat : Int) / 2 : Int) = ((x >>> 1).toNat : Int) from half_nat x, poly_nat, xor_bv]; unfold Crc.step; rw [if_pos h1]
theorem step_evn (x : BitVec 32) (h : ((x.toNat : Int) % 2 == 1) = false) : (x.toNat : Int) / 2 = ((Crc.step x).toNat : Int) := by
  have h1 : ¬ x.getLsbD 0 = true := by rw [lsb_iff]; simp at h; omega
  rw [show ((x.toNat : Int) / 2 : Int) = ((x >>> 1).toNat : Int) from half_nat x]; unfold Crc.step; rw [if_neg h1, BitVec.xor_zero]

set_option maxHeartbeats 400000 in
theorem step_any (z : Int) (v : BitVec 32) (hz : z = v.toNat) (w : World) :
    Calls Try.prog 14 #[.int .u32 z] w fun e w' => e = .returned (.int .u32 ((Crc.step8 v).toNat : Int)) ∧ w = w' := by
  subst hz
  have hv := v.isLt
  go_enter Try.func14, Try.ntmps14
  go_wp2
  go_loop [0, 3, 5, 6] (fun t i _ _ => ∃ k : Nat, k ≤ 8 ∧ i = .int .i64 k ∧ t = .int .u32 ((Crc.steps k v).toNat : Int)) (fun _ i _ _ => (8 - (intOf i).toNat))
  case atStart => exact ⟨0, by omega, rfl, rfl⟩
  case round =>
    obtain ⟨k, hk, rfl, rfl⟩ := hrel
    have hn := (Crc.steps k v).isLt
    by_cases hlt : k < 8
    · have e1 : Hid _ := Lib.hid (Crc.steps_succ k v)
      go_wp2
      all_goals
        go_round
        case rel => exact ⟨k + 1, by omega, by go_num, val_int (by rw [e1.out]; first | exact step_odd _ ‹_› | exact step_evn _ ‹_›)⟩
        case measure => simp [intOf]; omega
    · obtain rfl : k = 8 := by omega
      go_wp2
      go_ret
      exact ⟨rfl, rfl⟩

theorem and_bv (x : BitVec 32) : bits .and .u32 (x.toNat : Int) 1 = (x.toNat : Int) % 2 := by
  have := u32_and_nat x.toNat 1 x.isLt (by omega)
  rw [show ((1 : Nat) : Int) = 1 by rfl] at this
  rw [this, Nat.and_one_is_mod]; rfl

theorem infoTab : (Try.prog.info? 24).map (fun i => (i.zero, i.size)) = some (some (.agg (Array.replicate 256 (.int .u32 0))), 256) := by kernel_rfl
/-- The table, its first k entries made. -/
def IsTab (k : Nat) (T : Array Value) : Prop := T.size = 256 ∧ ∀ j, j < 256 → T[j]? = some (.int .u32 (if j < k then ((Crc.tab j).toNat : Int) else 0))
theorem isTab_zero : IsTab 0 (Array.replicate 256 (.int .u32 0)) := ⟨by simp, fun j hj => by simp [hj]⟩
theorem isTab_succ {k : Nat} {T : Array Value} (h : IsTab k T) (hk : k < 256) (x : Int) (hx : x = ((Crc.tab k).toNat : Int)) : IsTab (k + 1) (T.setIfInBounds k (.int .u32 x)) := by
  subst hx
  refine ⟨by simpa using h.1, fun j hj => ?_⟩
  rw [Array.getElem?_setIfInBounds]
  by_cases e : k = j
  · subst e; simp [h.1, hk]
  · rw [if_neg e, h.2 j hj]
    by_cases h' : j < k
    · simp [h', show j < k + 1 by omega]
    · simp [h', show ¬ j < k + 1 by omega]
theorem conv_u32 (k : Nat) (hk : k < 256) : ((k : Int)) = ((BitVec.ofNat 32 k).toNat : Int) := by
  rw [BitVec.toNat_ofNat, Nat.mod_eq_of_lt (by omega)]
theorem step_mul (x : BitVec 32) : bits .xor .u32 ((x.toNat : Int) / (2 : Int)) (bits .and .u32 (x.toNat : Int) 1 * 3988292384 % 4294967296) = ((Crc.step x).toNat : Int) := by
  rw [and_bv]
  rcases Int.emod_two_eq (x.toNat : Int) with h | h
  · rw [h, ← step_evn x (by simp [h])]
    rw [show ((x.toNat : Int) / (2 : Int) : Int) = ((x >>> 1).toNat : Int) from half_nat x]
    have := xor_bv (x >>> 1) 0#32
    simpa using this
  · rw [h, ← step_odd x (by simp [h])]; rfl

theorem isTab_one {k : Nat} {T : Array Value} (hT : IsTab k T) : T.all (·.oneCell') = true := by
  rw [Array.all_eq_true]
  intro j hj
  have := hT.2 j (by rw [← hT.1]; exact hj)
  rw [Array.getElem?_eq_getElem hj] at this
  injection this with this
  rw [this]; rfl
theorem below_setRow {B : Nat} {a w : World} (h : Below B a w) {g : Nat} (hg : B ≤ g) (cs : Array Value) : Below B a (w.setRow g cs) :=
  h.trans ⟨rfl, rfl, rfl, by simp, fun k hk => setRow_other w g k cs (by omega)⟩
set_option maxRecDepth 100000 in
set_option maxHeartbeats 400000 in
theorem table_any (w : World) :
    Calls Try.prog 10 #[] w fun e w' => (∃ T, IsTab 256 T ∧ e = .returned (.agg T)) ∧ Below w.heap.size w w' := by
  obtain ⟨Z, hZ, zTab⟩ : ∃ Z, IsTab 0 Z ∧ ∀ w, (zeroValue 24).run Try.prog w = .ok (.agg Z) w := ⟨_, isTab_zero, (zero_of_info infoTab).1⟩
  have hzs := hZ.1
  go_enter Try.func10, Try.ntmps10
  go_wp2
  go_loopw [2, 3, 4, 5] (fun _ _ i _ wr => ∃ (k : Nat) (T : Array Value), k ≤ 256 ∧ IsTab k T ∧ i = .int .i64 k ∧ wr = (w.alloc (Obj.cells Z 24)).alloc (Obj.cells T 24)) (fun _ _ i _ _ => (256 - (intOf i).toNat))
  case atStart => exact ⟨0, _, by omega, hZ, rfl, rfl⟩
  case round =>
    obtain ⟨k, T, hk, hT, rfl, rfl⟩ := hrel
    have hs := hT.1
    have h1T := isTab_one hT
    have HZ := Lib.hid hZ; clear hZ
    have HT := Lib.hid hT; clear hT
    have HS := Lib.hid hs; clear hs
    have HZS := Lib.hid hzs; clear hzs
    have H1 := Lib.hid h1T; clear h1T
    clear zTab
    by_cases hlt : k < 256
    · have hdec : decide ((k : Int) < 256) = true := by simpa using (show (k : Int) < 256 by omega)
      have hmod : (k : Int) % 4294967296 = k := by omega
      go_wp2_with fail
      go_loop [3, 9, 10, 11, 12, 13, 14, 15, 16, 17] (fun x i _ _ _ _ _ _ _ _ => ∃ j : Nat, j ≤ 8 ∧ i = .int .i64 j ∧ x = .int .u32 ((Crc.steps j (BitVec.ofNat 32 k)).toNat : Int)) (fun _ i _ _ _ _ _ _ _ _ => (8 - (intOf i).toNat))
      case atStart => exact ⟨0, by omega, rfl, val_int (conv_u32 k hlt)⟩
      case round =>
        obtain ⟨j, hj, rfl, rfl⟩ := hrel
        have hn := (Crc.steps j (BitVec.ofNat 32 k)).isLt
        by_cases hjl : j < 8
        · have e1 := Lib.hid (Crc.steps_succ j (BitVec.ofNat 32 k))
          go_wp2_with fail
          go_round
          case rel => exact ⟨j + 1, by omega, by go_num, val_int (by rw [e1.out]; exact step_mul _)⟩
          case measure => simp [intOf]; omega
        · obtain rfl : j = 8 := by omega
          have hts : k < T.size := by rw [HS.out]; exact hlt
          go_wp2_with fail
          go_roundw
          case rel => exact ⟨k + 1, _, by omega, isTab_succ HT.out hlt _ rfl, by go_num, rfl⟩
          case measure => simp [intOf]; omega
    · obtain rfl : k = 256 := by omega
      have hg1 : ((w.alloc (Obj.cells Z 24)).alloc (Obj.cells T 24)).heap[w.heap.size + 1]? = some (.cells T 24 (0, 0)) := heap_alloc2_new w _ _
      have hg0 : ((w.alloc (Obj.cells Z 24)).alloc (Obj.cells T 24)).heap[w.heap.size]? = some (.cells Z 24 (0, 0)) := heap_alloc2_old w _ _
      have HI : Hid ((Try.prog.info? 24).map (·.size) = some T.size) := by rw [HS.out]; exact (zero_of_info infoTab).2
      have HZT : Hid (Z.size = T.size) := HZS.out.trans HS.out.symm
      go_wp2_with (first | (refine wpList_load_row rfl 24 _ rfl (w.heap.size + 1) rfl 24 T (0, 0) _ hg1 Try.underlying24 rfl HI.out ?_) | (refine wpList_store_row rfl 24 _ _ rfl w.heap.size T rfl rfl 24 Z hg0 HI.out HZT.out H1.out ?_))
      have hg2 : (((w.alloc (Obj.cells Z 24)).alloc (Obj.cells T 24)).setRow w.heap.size T).heap[w.heap.size]? = some (.cells T 24 (0, 0)) := setRow_heap _ _ Z _ _ _ hg0
      refine bodyPost_ret (v := .agg T) (results_cell_row rfl _ _ w.heap.size 24 T (0, 0) _ rfl hg2 Try.underlying24 rfl HI.out) rfl ⟨⟨T, HT.out, rfl⟩, ?_⟩
      exact below_setRow (((Below.refl _ _).alloc (Nat.le_refl _) _).alloc (by simp) _) (Nat.le_refl _) _

/-- A slice of bytes that can be read. -/
def Rd (w : World) (A : Option Addr) (l : List UInt8) : Prop :=
  l.length ≤ 140737488355328 ∧ (0 < l.length → ∃ b off, A = some ⟨b, off, none⟩ ∧ ∀ j (h : j < l.length), w.cell? ⟨b, off + j, none⟩ = some (.int .u8 (l[j].toNat : Int)))
theorem Rd.below {w w1 : World} {A : Option Addr} {l : List UInt8} (h : Rd w A l) (hb : Below w.heap.size w w1) : Rd w1 A l :=
  ⟨h.1, fun hn => by
    obtain ⟨b, off, e, hc⟩ := h.2 hn
    refine ⟨b, off, e, fun j hj => ?_⟩
    have := hc j hj
    rw [hb.cell (World.block_lt_of_cell? w _ this)]; exact this⟩

def crcB (s : BitVec 32) (l : List UInt8) : BitVec 32 := Crc.crc s (l.map UInt8.toNat)
def foldB (s : BitVec 32) (l : List UInt8) : BitVec 32 := l.foldl (fun x c => Crc.upd x c.toNat) s
theorem crcB_fold (s : BitVec 32) (l : List UInt8) : crcB s l = ~~~ (foldB (~~~ s) l) := by
  simp [crcB, Crc.crc, foldB, List.foldl_map]
theorem foldB_snoc (s : BitVec 32) (l : List UInt8) (k : Nat) (h : k < l.length) : foldB s (l.take (k + 1)) = Crc.upd (foldB s (l.take k)) (l[k].toNat) := by
  unfold foldB; rw [List.take_succ_eq_append_getElem h, List.foldl_append]; rfl

theorem not_bv (s : BitVec 32) : bits .xor .u32 IntKind.u32.max (s.toNat : Int) = ((~~~ s).toNat : Int) := by
  have := xor_bv (BitVec.allOnes 32) s
  rw [show ((BitVec.allOnes 32).toNat : Int) = IntKind.u32.max by decide] at this
  rw [this, BitVec.allOnes_xor]
theorem upd_bv (x : BitVec 32) (c : UInt8) : ((Crc.upd x c.toNat).toNat : Int) = bits .xor .u32 (((Crc.tab ((x.toNat ^^^ c.toNat) % 256)).toNat : Int)) ((x.toNat : Int) / (256 : Int)) := by
  rw [Crc.upd_tab x _ c.toNat_lt]
  have h : ((x.toNat : Int) / (256 : Int)) = ((x >>> 8).toNat : Int) := by
    rw [BitVec.toNat_ushiftRight, Nat.shiftRight_eq_div_pow]; simp
  rw [h, xor_bv]
theorem idx_bv (x : Nat) (c : UInt8) : bits .xor .u8 ((x : Int) % (256 : Int)) (c.toNat : Int) = (((x ^^^ c.toNat) % 256 : Nat) : Int) := by
  have := u8_xor_nat (x % 256) c.toNat (by omega) c.toNat_lt
  rw [show ((x % 256 : Nat) : Int) = (x : Int) % (256 : Int) by simp] at this
  rw [this]
  congr 1
  rw [show (256 : Nat) = 2 ^ 8 by rfl, Nat.xor_mod_two_pow]
  rw [Nat.mod_eq_of_lt (show c.toNat < 2 ^ 8 from c.toNat_lt)]
set_option maxRecDepth 100000 in
set_option maxHeartbeats 400000 in
theorem more_any (z : Int) (s : BitVec 32) (hz : z = s.toNat) (A : Option Addr) (n c : Nat) (l : List UInt8) (hn : l.length = n) (w : World) (hA : Rd w A l) :
    Calls Try.prog 11 #[.int .u32 z, .slice A n c] w fun e w' => e = .returned (.int .u32 ((crcB s l).toNat : Int)) ∧ Below w.heap.size w w' := by
  subst hz
  obtain ⟨Z, hZ, zTab⟩ : ∃ Z, Z.size = 256 ∧ ∀ w, (zeroValue 24).run Try.prog w = .ok (.agg Z) w := ⟨_, by simp, (zero_of_info infoTab).1⟩
  have hsl := s.isLt
  go_enter Try.func11, Try.ntmps11
  go_wp2_with (first | (go_at_call 10; refine (table_any _).mono ?_; rintro e w1 ⟨⟨T, hT, rfl⟩, hb1⟩; have HI : Hid ((Try.prog.info? 24).map (·.size) = some T.size) := by (rw [hT.1]; exact (zero_of_info infoTab).2)) | (refine wpList_store_row rfl 24 _ _ rfl w1.heap.size T rfl rfl 24 Z (heap_alloc_new _ _) ?h1 ?h2 ?h3 ?_))
  case h1 => exact HI.out
  case h2 => rw [hT.1]; exact hZ
  case h3 => exact isTab_one hT
  rw [World.setRow_alloc_new]
  have hT1 := Lib.hid hT; clear hT
  have hnl : n ≤ 140737488355328 := by have := hA.1; omega
  have hA1 := hA.below hb1
  go_loop [6, 8, 14, 15, 16, 17, 18, 19, 20, 21, 22, 23, 24, 25, 26, 27] (fun x _ i _ _ _ _ _ _ _ _ _ _ _ _ _ => ∃ k : Nat, k ≤ n ∧ i = .int .i64 k ∧ x = .int .u32 ((foldB (~~~ s) (l.take k)).toNat : Int)) (fun _ _ i _ _ _ _ _ _ _ _ _ _ _ _ _ => n - (intOf i).toNat)
  case atStart => exact ⟨0, by omega, rfl, val_int (by rw [not_bv]; rfl)⟩
  case round =>
    obtain ⟨k, hk, rfl, rfl⟩ := hrel
    by_cases hlt : k < n
    · have hkl : k < l.length := by omega
      obtain ⟨b, off, rfl, hc⟩ := hA1.2 (by omega)
      have hck := hc k hkl
      have hbl := World.block_lt_of_cell? w1 _ hck
      have hcell : (w1.alloc (.cells T 24)).cell? ⟨b, off + k, none⟩ = some (.int .u8 (l[k].toNat : Int)) := by rw [World.cell?_alloc_past _ _ _ hbl]; exact hck
      obtain ⟨m, hmd⟩ : ∃ m, m = ((foldB (~~~ s) (l.take k)).toNat ^^^ l[k].toNat) % 256 := ⟨_, rfl⟩
      have hm : m < 256 := by omega
      have hidx := idx_bv (foldB (~~~ s) (l.take k)).toNat l[k]
      rw [← hmd] at hidx
      have hc2 : (w1.alloc (.cells T 24)).cell? ⟨w1.heap.size, m, none⟩ = some (.int .u32 ((Crc.tab m).toNat : Int)) := by
        rw [World.cell?_alloc_at _ _ _ _ rfl, hT1.out.2 m hm, if_pos hm]
      have HM := Lib.hid hmd
      have HN : Hid (((foldB (~~~ s) (l.take (k + 1))).toNat : Int) = bits .xor .u32 ((Crc.tab m).toNat : Int) (((foldB (~~~ s) (l.take k)).toNat : Int) / (256 : Int))) := by
        rw [foldB_snoc _ _ _ hkl, upd_bv, hmd]; rfl
      clear hmd hck hbl hc hA hA1
      have hX := (foldB (~~~ s) (l.take k)).isLt
      go_wp2
      go_round
      case rel => exact ⟨k + 1, by omega, by go_num, val_int HN.out.symm⟩
      case measure => simp [intOf]; omega
    · obtain rfl : k = n := by omega
      go_wp2
      go_ret
      refine ⟨ret_int ?_, hb1.alloc (by have := hb1.size; omega) _⟩
      rw [not_bv, crcB_fold, List.take_of_length_le (by omega)]
set_option maxHeartbeats 400000 in
theorem of_any (A : Option Addr) (n c : Nat) (l : List UInt8) (hn : l.length = n) (w : World) (hA : Rd w A l) :
    Calls Try.prog 13 #[.slice A n c] w fun e w' => e = .returned (.int .u32 ((crcB 0#32 l).toNat : Int)) ∧ Below w.heap.size w w' := by
  go_enter Try.func13, Try.ntmps13
  go_wp2_with (go_at_call 11; refine (more_any 0 0#32 rfl _ _ _ l hn _ hA).mono ?_; rintro e w1 ⟨rfl, hb1⟩)
  go_ret
  exact ⟨rfl, hb1⟩
theorem not_sub (s : BitVec 32) : (4294967295 : Int) - (s.toNat : Int) = ((~~~ s).toNat : Int) := by
  rw [BitVec.toNat_not]; have := s.isLt; omega
theorem xor_byte (x : BitVec 32) (c : UInt8) : bits .xor .u32 (x.toNat : Int) (c.toNat : Int) = ((x ^^^ BitVec.ofNat 32 c.toNat).toNat : Int) := by
  have := xor_bv x (BitVec.ofNat 32 c.toNat)
  rwa [BitVec.toNat_ofNat, Nat.mod_eq_of_lt (by have := c.toNat_lt; omega)] at this
set_option maxHeartbeats 400000 in
theorem ref_more (z : Int) (s : BitVec 32) (hz : z = s.toNat) (b : ByteArray) (hn : b.size ≤ 140737488355328) (w : World) :
    Calls Try.prog 12 #[.int .u32 z, .string b] w fun e w' => e = .returned (.int .u32 ((crcB s b.data.toList).toNat : Int)) ∧ w = w' := by
  subst hz
  have hsl := s.isLt
  go_enter Try.func12, Try.ntmps12
  go_wp2
  go_loop [5, 6, 9, 10, 11, 12, 15, 16, 17, 18, 19, 20, 21] (fun x i _ _ _ _ _ _ _ _ _ _ _ => ∃ k : Nat, k ≤ b.size ∧ i = .int .i64 k ∧ x = .int .u32 ((foldB (~~~ s) (b.data.toList.take k)).toNat : Int)) (fun _ i _ _ _ _ _ _ _ _ _ _ _ => b.size - (intOf i).toNat)
  case atStart => exact ⟨0, by omega, rfl, val_int (by rw [not_sub]; rfl)⟩
  case round =>
    obtain ⟨k, hk, rfl, rfl⟩ := hrel
    by_cases hlt : k < b.size
    · have HS : Hid (Crc.step8 (foldB (~~~ s) (b.data.toList.take k) ^^^ BitVec.ofNat 32 b[k].toNat) = foldB (~~~ s) (b.data.toList.take (k + 1))) := by
        rw [foldB_snoc _ _ _ (by simpa using hlt)]; rfl
      have hX := (foldB (~~~ s) (b.data.toList.take k)).isLt
      have hxor := xor_byte (foldB (~~~ s) (b.data.toList.take k)) b[k]
      obtain ⟨y, hy⟩ : ∃ y, y = foldB (~~~ s) (b.data.toList.take k) ^^^ BitVec.ofNat 32 b[k].toNat := ⟨_, rfl⟩
      rw [← hy] at hxor HS
      have HY := Lib.hid hy; clear hy
      have hyl := y.isLt
      have hbk := b[k].toNat_lt
      go_wp2_with (go_at_call 14; refine (step_any _ y rfl _).mono ?_; rintro e w1 ⟨rfl, rfl⟩)
      go_round
      case rel => exact ⟨k + 1, by omega, by go_num, val_int (by rw [HS.out])⟩
      case measure => simp [intOf]; omega
    · obtain rfl : k = b.size := by omega
      have hX := (foldB (~~~ s) (b.data.toList.take b.size)).isLt
      go_wp2
      go_ret
      refine ⟨ret_int ?_, rfl⟩
      rw [not_sub, crcB_fold, List.take_of_length_le (by simp)]

def bytesV (l : List UInt8) : Array Value := (l.map fun c => Value.int .u8 (c.toNat : Int)).toArray
theorem rd_alloc (w : World) (cs : Array Value) (t : TypeId) (fr : Nat × Nat) (l : List UInt8) (h : cs = bytesV l) (hl : l.length ≤ 140737488355328) : Rd (w.alloc (.cells cs t fr)) (some ⟨w.heap.size, 0, none⟩) l := by
  subst h
  refine ⟨hl, fun _ => ⟨_, _, rfl, fun j hj => ?_⟩⟩
  rw [cell_of_row _ _ _ _ _ _ (heap_alloc_new _ _)]
  simp [bytesV, hj]
theorem rd_nil (w : World) (A : Option Addr) : Rd w A [] := ⟨by simp, fun h => by simp at h⟩
theorem below_more {w w1 w2 : World} (h : Below w.heap.size w w1) (k : Below w1.heap.size w1 w2) : Below w.heap.size w w2 := h.trans (k.mono h.size)
theorem below_al {w w1 : World} (h : Below w.heap.size w w1) (o : Obj) : Below w.heap.size w (w1.alloc o) := h.alloc h.size o
theorem below_al' (w : World) (o : Obj) : Below w.heap.size w (w.alloc o) := below_al (Below.refl _ _) o
theorem crc_1 : (crcB 0#32 [49, 50, 51, 52, 53, 54, 55, 56, 57]).toNat = 3421780262 := by decide +kernel
theorem crc_0 : (crcB 0#32 []).toNat = 0 := by decide +kernel
theorem crc_2 : (crcB (crcB 0#32 [49, 50, 51, 52]) [53, 54, 55, 56, 57]).toNat = 3421780262 := by decide +kernel
set_option maxHeartbeats 400000 in
theorem works_any (w : World) :
    Calls Try.prog 9 #[] w fun e w' => e = .returned (.bool true) ∧ Below w.heap.size w w' := by
  have kc := fun (w : World) (C : Array Value) (n c : Nat) => Lib.run_convert_bytes_const (P := Try.prog) w 27 5 C n c Try.underlying27 Try.underlying5
  go_enter Try.func9, Try.ntmps9
  go_wp2_with fail
  refine (of_any _ _ _ [49, 50, 51, 52, 53, 54, 55, 56, 57] rfl _ (rd_alloc _ _ _ _ _ rfl (by decide))).mono ?_
  rintro e w1 ⟨rfl, hb1⟩
  rw [crc_1]
  have hb1 := below_more (below_al' _ _) hb1
  go_wp2_with fail
  refine (of_any _ _ _ [] rfl _ (rd_nil _ _)).mono ?_
  rintro e w2 ⟨rfl, hb2⟩
  rw [crc_0]
  have hb2 := below_more hb1 hb2
  clear hb1
  go_wp2_with fail
  refine (of_any _ _ _ [49, 50, 51, 52] rfl _ (rd_alloc _ _ _ _ _ rfl (by decide))).mono ?_
  rintro e w3 ⟨rfl, hb3⟩
  have hb3 := below_more (below_al hb2 _) hb3
  clear hb2
  go_wp2_with fail
  refine (more_any _ (crcB 0#32 [49, 50, 51, 52]) rfl _ _ _ [53, 54, 55, 56, 57] rfl _ (rd_alloc _ _ _ _ _ rfl (by decide))).mono ?_
  rintro e w4 ⟨rfl, hb4⟩
  rw [crc_2]
  have hb4 := below_more (below_al hb3 _) hb4
  clear hb3
  go_wp2_with fail
  go_ret
  exact ⟨rfl, hb4⟩

/-! '[]byte(s)': the new row, and the world behind it. -/
def byCap (w : World) (e : TypeId) (s : ByteArray) : Nat := grownCap w s.size 0 e
def byW (w : World) (e : TypeId) (s : ByteArray) : World :=
  w.drew.alloc (.cells (bytesRow s (grownCap w s.size 0 e)) e ((bytesRow s (grownCap w s.size 0 e)).size, (bytesRow s (grownCap w s.size 0 e)).size + 1))
theorem run_by {P : Program} (src dst e : TypeId) (hs : P.underlying src = some .string) (hd : P.underlying dst = some (.slice e)) (he : P.underlying e = some (.int .u8)) (w : World) (s : ByteArray) :
    (convert src dst (.string s)).run P w = .ok (.slice (some ⟨w.heap.size, 0, none⟩) s.size (byCap w e s)) (byW w e s) := run_bytes_of_string w src dst e s hs hd he
theorem by_below (w : World) (e : TypeId) (s : ByteArray) : Below w.heap.size w (byW w e s) := ((Below.refl _ _).drew).alloc (Nat.le_refl _) _
theorem by_size (w : World) (e : TypeId) (s : ByteArray) : (byW w e s).heap.size = w.heap.size + 1 := by simp [byW]
theorem by_rd (w : World) (e : TypeId) (s : ByteArray) (hs : s.size ≤ 140737488355328) : Rd (byW w e s) (some ⟨w.heap.size, 0, none⟩) s.data.toList := by
  refine ⟨by simpa using hs, fun _ => ⟨_, _, rfl, fun j hj => ?_⟩⟩
  have h : (byW w e s).heap[w.heap.size]? = some (.cells (bytesRow s (grownCap w s.size 0 e)) e ((bytesRow s (grownCap w s.size 0 e)).size, (bytesRow s (grownCap w s.size 0 e)).size + 1)) := heap_alloc_new w.drew _
  rw [cell_of_row _ _ _ _ _ _ h]
  have hj' : j < s.size := by simpa using hj
  simp [bytesRow, Array.getElem?_append, hj']

theorem by_rd' (w : World) (e : TypeId) (s : ByteArray) (n : Nat) (l : List UInt8) (hn : n = w.heap.size) (hl : l = s.data.toList) (hs : l.length ≤ 140737488355328) : Rd (byW w e s) (some ⟨n, 0, none⟩) l := by
  subst hn; subst hl; exact by_rd w e s (by simpa using hs)
theorem add_off (b off j : Nat) : (⟨b, off, none⟩ : Addr).add j = ⟨b, off + j, none⟩ := by unfold Addr.add; split <;> simp_all
/-- 'string(b)'. -/
theorem run_str {P : Program} (src dst e : TypeId) (hs : P.underlying src = some (.slice e)) (he : P.underlying e = some (.int .u8)) (hd : P.underlying dst = some .string)
    (w : World) (A : Option Addr) (l : List UInt8) (n c : Nat) (hn : l.length = n) (h : Rd w A l) : (convert src dst (.slice A n c)).run P w = .ok (.string ⟨l.toArray⟩) w := by
  subst hn
  cases A with
  | none =>
    have hl : l = [] := by
      cases l with
      | nil => rfl
      | cons x l => obtain ⟨b, off, e, _⟩ := h.2 (by simp); cases e
    subst hl
    exact run_convert_bytes_nil w src e hs he _ _ dst hd
  | some a =>
    refine run_convert_bytes_back w src dst e a c l hs he hd (fun j hj => ?_)
    obtain ⟨b, off, e, hc⟩ := h.2 (by omega)
    injection e with e
    subst e
    rw [add_off]
    exact hc j hj
theorem str_of_data (s : ByteArray) : (⟨s.data.toList.toArray⟩ : ByteArray) = s := by cases s; simp
end Go.Proofs.Ytbagbjhpdjppnaa.Sum
