/- Small lemmas of any program: slices of bytes that can be read, '[]byte(s)', 'string(b)', worlds that grow. -/
import Derived.WalkKit
import Derived.WalkSpells
import Derived.WalkLawsBesides
import Derived.Outline
import Derived.Laws.BitsAllLaws
import Derived.Deep.WholeRow
import Derived.Lib.Hide
import Derived.Lib.SlBytesConst
import Derived.Laws.IdiomStrings
import Derived.Laws.BytesArg
import Derived.IntWalk
import Derived.KernelRfl
set_option linter.unusedVariables false
set_option linter.unusedSimpArgs false
namespace Go.Proofs.Ytajgeofhlgoifaa.Base
open Go.RowKit
theorem ret_int {k : IntKind} {a b : Int} (h : a = b) : Ending.returned (.int k a) = .returned (.int k b) := by rw [h]
theorem val_int {k : IntKind} {a b : Int} (h : a = b) : Value.int k a = .int k b := by rw [h]
theorem below_setRow {B : Nat} {a w : World} (h : Below B a w) {g : Nat} (hg : B ≤ g) (cs : Array Value) : Below B a (w.setRow g cs) :=
  h.trans ⟨rfl, rfl, rfl, by simp, fun k hk => setRow_other w g k cs (by omega)⟩
/-- A slice of bytes that can be read. -/
def Rd (w : World) (A : Option Addr) (l : List UInt8) : Prop :=
  l.length ≤ 140737488355328 ∧ (0 < l.length → ∃ b off, A = some ⟨b, off, none⟩ ∧ ∀ j (h : j < l.length), w.cell? ⟨b, off + j, none⟩ = some (.int .u8 (l[j].toNat : Int)))
theorem Rd.below {w w1 : World} {A : Option Addr} {l : List UInt8} (h : Rd w A l) (hb : Below w.heap.size w w1) : Rd w1 A l :=
  ⟨h.1, fun hn => by
    obtain ⟨b, off, e, hc⟩ := h.2 hn
    refine ⟨b, off, e, fun j hj => ?_⟩
    have := hc j hj
    rw [hb.cell (World.block_lt_of_cell? w _ this)]; exact this⟩

def bytesV (l : List UInt8) : Array Value := (l.map fun c => Value.int .u8 (c.toNat : Int)).toArray
theorem rd_alloc (w : World) (cs : Array Value) (t : TypeId) (fr : Nat × Nat) (l : List UInt8) (h : cs = bytesV l) (hl : l.length ≤ 140737488355328) : Rd (w.alloc (.cells cs t fr)) (some ⟨w.heap.size, 0, none⟩) l := by
  subst h
  refine ⟨hl, fun _ => ⟨_, _, rfl, fun j hj => ?_⟩⟩
  rw [cell_of_row _ _ _ _ _ _ (heap_alloc_new _ _)]
  simp [bytesV, hj]
theorem rd_nil (w : World) (A : Option Addr) : Rd w A [] := ⟨by simp, fun h => by simp at h⟩
theorem below_more {w w1 w2 : World} (h : Below w.heap.size w w1) (k : Below w1.heap.size w1 w2) : Below w.heap.size w w2 := h.trans (k.mono h.size)
theorem below_al {w w1 : World} (h : Below w.heap.size w w1) (o : Obj) : Below w.heap.size w (w1.alloc o) := h.alloc h.size o
theorem below_al' (w : World) (o : Obj) : Below w.heap.size w (w.alloc o) := below_al (Below.refl _ _) o
/-! '[]byte(s)': the new row, and the world behind it. -/
def byCap (w : World) (e : TypeId) (s : ByteArray) : Nat := grownCap w s.size 0 e
def byW (w : World) (e : TypeId) (s : ByteArray) : World :=
  w.drew.alloc (.cells (bytesRow s (grownCap w s.size 0 e)) e ((bytesRow s (grownCap w s.size 0 e)).size, (bytesRow s (grownCap w s.size 0 e)).size + 1))
theorem run_by {P : Program} (src dst e : TypeId) (hs : P.underlying src = some .string) (hd : P.underlying dst = some (.slice e)) (he : P.underlying e = some (.int .u8)) (w : World) (s : ByteArray) :
    (convert src dst (.string s)).run P w = .ok (.slice (some ⟨w.heap.size, 0, none⟩) s.size (byCap w e s)) (byW w e s) := run_bytes_of_string w src dst e s hs hd he
theorem by_below (w : World) (e : TypeId) (s : ByteArray) : Below w.heap.size w (byW w e s) := ((Below.refl _ _).drew).alloc (Nat.le_refl _) _
theorem by_size (w : World) (e : TypeId) (s : ByteArray) : (byW w e s).heap.size = w.heap.size + 1 := by simp [byW]
theorem by_rd (w : World) (e : TypeId) (s : ByteArray) (hs : s.size ≤ 140737488355328) : Rd (byW w e s) (some ⟨w.heap.size, 0, none⟩) s.data.toList := by
  refine ⟨by simpa using hs, fun _ => ⟨_, _, rfl, fun j hj => ?_⟩⟩
  have h : (byW w e s).heap[w.heap.size]? = some (.cells (bytesRow s (grownCap w s.size 0 e)) e ((bytesRow s (grownCap w s.size 0 e)).size, (bytesRow s (grownCap w s.size 0 e)).size + 1)) := heap_alloc_new w.drew _
  rw [cell_of_row _ _ _ _ _ _ h]
  have hj' : j < s.size := by simpa using hj
  simp [bytesRow, Array.getElem?_append, hj']

theorem by_rd' (w : World) (e : TypeId) (s : ByteArray) (n : Nat) (l : List UInt8) (hn : n = w.heap.size) (hl : l = s.data.toList) (hs : l.length ≤ 140737488355328) : Rd (byW w e s) (some ⟨n, 0, none⟩) l := by
  subst hn; subst hl; exact by_rd w e s (by simpa using hs)
theorem add_off (b off j : Nat) : (⟨b, off, none⟩ : Addr).add j = ⟨b, off + j, none⟩ := by unfold Addr.add; split <;> simp_all
/-- 'string(b)'. -/
theorem run_str {P : Program} (src dst e : TypeId) (hs : P.underlying src = some (.slice e)) (he : P.underlying e = some (.int .u8)) (hd : P.underlying dst = some .string)
    (w : World) (A : Option Addr) (l : List UInt8) (n c : Nat) (hn : l.length = n) (h : Rd w A l) : (convert src dst (.slice A n c)).run P w = .ok (.string ⟨l.toArray⟩) w := by
  subst hn
  cases A with
  | none =>
    have hl : l = [] := by
      cases l with
      | nil => rfl
      | cons x l => obtain ⟨b, off, e, _⟩ := h.2 (by simp); cases e
    subst hl
    exact run_convert_bytes_nil w src e hs he _ _ dst hd
  | some a =>
    refine run_convert_bytes_back w src dst e a c l hs he hd (fun j hj => ?_)
    obtain ⟨b, off, e, hc⟩ := h.2 (by omega)
    injection e with e
    subst e
    rw [add_off]
    exact hc j hj
theorem str_of_data (s : ByteArray) : (⟨s.data.toList.toArray⟩ : ByteArray) = s := by cases s; simp
theorem xor_u8 (x y : UInt8) : bits .xor .u8 (x.toNat : Int) (y.toNat : Int) = ((x ^^^ y).toNat : Int) := by
  rw [u8_xor_nat _ _ x.toNat_lt y.toNat_lt]; simp
theorem parts_of (b : ByteArray) (k : Nat) (h : k < b.size) : b.data.toList = b.data.toList.take k ++ b[k] :: b.data.toList.drop (k + 1) := by
  have hk : k < b.data.toList.length := by simpa using h
  conv => lhs; rw [← List.take_append_drop k b.data.toList]
  rw [List.drop_eq_getElem_cons hk]
  simp; rfl
theorem ext_head (b : ByteArray) (k : Nat) : (b.extract 0 k).data.toList = b.data.toList.take k := by simp [ByteArray.data_extract]
theorem ext_tail (b : ByteArray) (k : Nat) : (b.extract k b.size).data.toList = b.data.toList.drop k := by
  simp [ByteArray.data_extract]
  exact List.take_of_length_le (by simp)
theorem toNat_eq_iff (a b : BitVec 32) : ((a.toNat : Int) == (b.toNat : Int)) = decide (a = b) := by
  rw [Bool.eq_iff_iff]; simp only [beq_iff_eq, decide_eq_true_eq]
  exact ⟨fun h => BitVec.eq_of_toNat_eq (by omega), fun h => by rw [h]⟩
theorem bcell {W w1 : World} (hb : Below W.heap.size W w1) : (∀ b o, b < W.heap.size → w1.cell? ⟨b, o, none⟩ = W.cell? ⟨b, o, none⟩) ∧ (∀ b o, b < W.heap.size → w1.frozen? ⟨b, o, none⟩ = W.frozen? ⟨b, o, none⟩) :=
  ⟨fun b o h => hb.cell (p := ⟨b, o, none⟩) h, fun b o h => hb.frozen (p := ⟨b, o, none⟩) h⟩
end Go.Proofs.Ytajgeofhlgoifaa.Base
