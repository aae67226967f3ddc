/- Abstract values of a Go program's memory, and how they stand for the model's values. No program is named here. -/
import Derived.Calls
import Derived.Below
import Derived.WalkKit
import Derived.OwnWalk
set_option linter.unusedVariables false
set_option linter.unusedSimpArgs false
namespace Go.Proofs.Ytajgeofhlgoifaa.V
open Go Go.RowKit

/-- What a slice knows of the room behind it: nothing; there is none; it owns it (a token). -/
inductive Tok where
  | no
  | full
  | own (id : Nat)
  deriving DecidableEq

inductive AV where
  | undef
  | bool (b : Bool)
  | int (k : IntKind) (n : Int)
  | str (s : List UInt8)
  | nilptr
  | nilmap
  | nilfunc
  | niliface
  | ptr (id off : Nat)
  | ref (cs : List AV) (off : Nat)
  | arr (id off n c : Nat)
  | map (id : Nat)
  | list (xs : List AV) (t : Tok)
  | func (fn : Fn) (first captured : List AV)
  | iface (t : TypeId) (v : AV)
  | agg (cs : List AV)
  | tuple (vs : List AV)
instance : Inhabited AV := ⟨.undef⟩

def AV.cells : AV → List AV
  | .agg cs => cs
  | v => [v]

/-- Where an abstract object lies: a block; or (a token) the slice that owns its row. -/
inductive Spot where
  | blk (b : Nat)
  | tail (v : Value)
  | loose (v : Value)

/-- What is known of the world: cells that never change again; where objects lie. -/
structure Ghost where
  n : Nat
  at_ : Nat → Spot
  imm : Nat → Nat → Option Value
  pin : Nat → Option Obj
  b0 : Nat

structure Ghost.le (g h : Ghost) : Prop where
  n : g.n ≤ h.n
  at_ : ∀ i, i < g.n → h.at_ i = g.at_ i
  imm : ∀ b o v, g.imm b o = some v → h.imm b o = some v
  pin : ∀ b o, g.pin b = some o → h.pin b = some o
  b0 : h.b0 = g.b0
theorem Ghost.le.refl (g : Ghost) : g.le g := ⟨Nat.le_refl _, fun _ _ => rfl, fun _ _ _ h => h, fun _ _ h => h, rfl⟩
theorem Ghost.le.trans {g h k : Ghost} (a : g.le h) (b : h.le k) : g.le k :=
  ⟨Nat.le_trans a.n b.n, fun i hi => (b.at_ i (Nat.lt_of_lt_of_le hi a.n)).trans (a.at_ i hi), fun p o v e => b.imm p o v (a.imm p o v e), fun p o e => b.pin p o (a.pin p o e), b.b0.trans a.b0⟩

def TokRel (g : Ghost) (v : Value) (n c : Nat) : Tok → Prop
  | .no => True
  | .full => c = n
  | .own id => id < g.n ∧ (g.at_ id = .tail v ∨ g.at_ id = .loose v)

inductive VRel (g : Ghost) : AV → Value → Prop
  | undef (v : Value) : VRel g .undef v
  | bool (b : Bool) : VRel g (.bool b) (.bool b)
  | int (k : IntKind) (n : Int) : VRel g (.int k n) (.int k n)
  | str (s : List UInt8) : VRel g (.str s) (.string ⟨s.toArray⟩)
  | nilptr : VRel g .nilptr (.pointer none)
  | nilmap : VRel g .nilmap (.map none)
  | nilfunc : VRel g .nilfunc .nilFunc
  | niliface : VRel g .niliface .nilIface
  | ptr (id off b : Nat) (hi : id < g.n) (hb : g.at_ id = .blk b) : VRel g (.ptr id off) (.pointer (some ⟨b, off, none⟩))
  | ref (cs : List AV) (off b o : Nat) (u : Nat → Value) (h1 : ∀ i, i < cs.length → g.imm b (o + i) = some (u i)) (h2 : ∀ i (h : i < cs.length), VRel g cs[i] (u i)) :
      VRel g (.ref cs off) (.pointer (some ⟨b, o + off, none⟩))
  | arr (id off n c b o : Nat) (hi : id < g.n) (hb : g.at_ id = .blk b) (hc : n ≤ c) (hm : c ≤ maxLen) (ho : 0 < c → o = off) : VRel g (.arr id off n c) (.slice (some ⟨b, o, none⟩) n c)
  | map (id b : Nat) (hi : id < g.n) (hb : g.at_ id = .blk b) : VRel g (.map id) (.map (some b))
  | list (xs : List AV) (t : Tok) (a : Option Addr) (c k b o : Nat) (u : Nat → Value) (hc : xs.length ≤ c) (hm : c ≤ maxLen) (hn : a = none → c = 0)
      (hk : ∀ j (h : j < xs.length), xs[j].cells.length = k) (ha : 0 < xs.length → a = some ⟨b, o, none⟩)
      (h1 : ∀ j (h : j < xs.length) i (h' : i < xs[j].cells.length), g.imm b (o + (j * k + i)) = some (u (j * k + i)))
      (h2 : ∀ j (h : j < xs.length) i (h' : i < xs[j].cells.length), VRel g xs[j].cells[i] (u (j * k + i)))
      (ht : TokRel g (.slice a xs.length c) xs.length c t) : VRel g (.list xs t) (.slice a xs.length c)
  | func (fn : Fn) (first captured : List AV) (f c : Array Value) (hf : first.length = f.size) (hc : captured.length = c.size)
      (h1 : ∀ i (h : i < first.length) (h' : i < f.size), VRel g first[i] f[i]) (h2 : ∀ i (h : i < captured.length) (h' : i < c.size), VRel g captured[i] c[i]) :
      VRel g (.func fn first captured) (.func fn f c)
  | iface (t : TypeId) (v : AV) (x : Value) (h : VRel g v x) : VRel g (.iface t v) (.iface t x)
  | agg (cs : List AV) (vs : Array Value) (hl : cs.length = vs.size) (h : ∀ i (h : i < cs.length) (h' : i < vs.size), VRel g cs[i] vs[i]) : VRel g (.agg cs) (.agg vs)
  | tuple (cs : List AV) (vs : Array Value) (hl : cs.length = vs.size) (h : ∀ i (h : i < cs.length) (h' : i < vs.size), VRel g cs[i] vs[i]) : VRel g (.tuple cs) (.tuple vs)

theorem TokRel.mono {g h : Ghost} (l : g.le h) {v : Value} {n c : Nat} {t : Tok} (r : TokRel g v n c t) : TokRel h v n c t := by
  cases t with
  | no => trivial
  | full => exact r
  | own id => exact ⟨Nat.lt_of_lt_of_le r.1 l.n, by rw [l.at_ id r.1]; exact r.2⟩

theorem VRel.mono {g h : Ghost} (l : g.le h) {x : AV} {v : Value} (r : VRel g x v) : VRel h x v := by
  induction r with
  | undef v => exact .undef v
  | bool b => exact .bool b
  | int k n => exact .int k n
  | str s => exact .str s
  | nilptr => exact .nilptr
  | nilmap => exact .nilmap
  | nilfunc => exact .nilfunc
  | niliface => exact .niliface
  | ptr id off b hi hb => exact .ptr id off b (Nat.lt_of_lt_of_le hi l.n) ((l.at_ id hi).trans hb)
  | ref cs off b o u h1 h2 ih => exact .ref cs off b o u (fun i hi => l.imm _ _ _ (h1 i hi)) ih
  | arr id off n c b o hi hb hc hm ho => exact .arr id off n c b o (Nat.lt_of_lt_of_le hi l.n) ((l.at_ id hi).trans hb) hc hm ho
  | map id b hi hb => exact .map id b (Nat.lt_of_lt_of_le hi l.n) ((l.at_ id hi).trans hb)
  | list xs t a c k b o u hc hm hn hk ha h1 h2 ht ih => exact .list xs t a c k b o u hc hm hn hk ha (fun j hj i hi => l.imm _ _ _ (h1 j hj i hi)) ih (ht.mono l)
  | func fn first captured f c hf hc h1 h2 ih1 ih2 => exact .func fn first captured f c hf hc ih1 ih2
  | iface t v x _ ih => exact .iface t v x ih
  | agg cs vs hl _ ih => exact .agg cs vs hl ih
  | tuple cs vs hl _ ih => exact .tuple cs vs hl ih

/-! Constants. -/
def AV.ofScalar : Value → AV
  | .bool b => .bool b
  | .int k n => .int k n
  | .string s => .str s.data.toList
  | .pointer none => .nilptr
  | .map none => .nilmap
  | .nilFunc => .nilfunc
  | .nilIface => .niliface
  | .slice none n c => bif n == 0 && c == 0 then .list [] .full else .undef
  | .func fn f c => bif f.size == 0 && c.size == 0 then .func fn [] [] else .undef
  | _ => .undef
def AV.ofConst : Value → AV
  | .agg cs => .agg (cs.toList.map AV.ofScalar)
  | .tuple cs => .tuple (cs.toList.map AV.ofScalar)
  | .iface t v => .iface t (AV.ofScalar v)
  | v => .ofScalar v

theorem VRel.nil (g : Ghost) : VRel g (.list [] .full) (.slice none 0 0) :=
  .list [] .full none 0 0 0 0 (fun _ => .nilIface) (Nat.le_refl _) (Nat.zero_le _) (fun _ => rfl) (fun j h => absurd h (by simp)) (fun h => absurd h (by simp)) (fun j h => absurd h (by simp)) (fun j h => absurd h (by simp)) rfl
theorem VRel.ofScalar (g : Ghost) (v : Value) : VRel g (.ofScalar v) v := by
  cases v with
  | bool b => exact .bool _
  | int k n => exact .int _ _
  | string s => exact .str _
  | pointer a => cases a with
    | none => exact .nilptr
    | some a => exact .undef _
  | map a => cases a with
    | none => exact .nilmap
    | some a => exact .undef _
  | nilFunc => exact .nilfunc
  | nilIface => exact .niliface
  | slice a n c => cases a with
    | some a => exact .undef _
    | none =>
      simp only [AV.ofScalar]
      cases h : (n == 0 && c == 0) with
      | false => exact .undef _
      | true =>
        simp only [Bool.and_eq_true, beq_iff_eq] at h
        rw [h.1, h.2]; exact .nil g
  | func fn f c =>
    simp only [AV.ofScalar]
    cases h : (f.size == 0 && c.size == 0) with
    | false => exact .undef _
    | true =>
      simp only [Bool.and_eq_true, beq_iff_eq] at h
      exact .func _ _ _ _ _ h.1.symm h.2.symm (fun i h => absurd h (by simp)) (fun i h => absurd h (by simp))
  | _ => exact .undef _
theorem VRel.ofConst (g : Ghost) (v : Value) : VRel g (.ofConst v) v := by
  unfold AV.ofConst
  split
  · exact .agg _ _ (by simp) (fun i h h' => by simpa using VRel.ofScalar g _)
  · exact .tuple _ _ (by simp) (fun i h h' => by simpa using VRel.ofScalar g _)
  · exact .iface _ _ _ (VRel.ofScalar g _)
  · exact VRel.ofScalar g _

/-! What a value is, told by what stands for it. -/
section
variable {g : Ghost} {v : Value}
theorem VRel.bool_eq {b : Bool} (h : VRel g (.bool b) v) : v = .bool b := by cases h; rfl
theorem VRel.int_eq {k : IntKind} {n : Int} (h : VRel g (.int k n) v) : v = .int k n := by cases h; rfl
theorem VRel.str_eq {s : List UInt8} (h : VRel g (.str s) v) : v = .string ⟨s.toArray⟩ := by cases h; rfl
theorem VRel.ptr_eq {id off : Nat} (h : VRel g (.ptr id off) v) : id < g.n ∧ ∃ b, g.at_ id = .blk b ∧ v = .pointer (some ⟨b, off, none⟩) := by
  cases h with
  | ptr _ _ b hi hb => exact ⟨hi, b, hb, rfl⟩
theorem VRel.arr_eq {id off n c : Nat} (h : VRel g (.arr id off n c) v) : id < g.n ∧ ∃ b o, g.at_ id = .blk b ∧ n ≤ c ∧ c ≤ maxLen ∧ (0 < c → o = off) ∧ v = .slice (some ⟨b, o, none⟩) n c := by
  cases h with
  | arr _ _ _ _ b o hi hb hc hm ho => exact ⟨hi, b, o, hb, hc, hm, ho, rfl⟩
theorem VRel.cells {x : AV} (h : VRel g x v) (hx : x ≠ .undef) : x.cells.length = v.cells.size ∧ ∀ i (h1 : i < x.cells.length) (h2 : i < v.cells.size), VRel g x.cells[i] v.cells[i] := by
  cases h with
  | undef => exact absurd rfl hx
  | agg cs vs hl hh => exact ⟨hl, hh⟩
  | _ => refine ⟨rfl, fun i h1 h2 => ?_⟩; obtain rfl : i = 0 := by (simp [AV.cells] at h1; exact h1)
         all_goals (simp only [AV.cells, Value.cells]; constructor <;> assumption)
end

end Go.Proofs.Ytajgeofhlgoifaa.V
