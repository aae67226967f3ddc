/- Operations that read nothing but what is fixed: their abstract values. No program is named here. -/
import Derived.Test.YtajgeofhlgoifaaV3
import Derived.Laws.StructEq
import Derived.Laws.Tables
import Derived.Laws.BytesArg
import Derived.Laws.Shifts
import Derived.Laws.Bits
set_option linter.unusedVariables false
set_option linter.unusedSimpArgs false
namespace Go.Proofs.Ytajgeofhlgoifaa.V
open Go Go.RowKit

def Agree (g : Ghost) (w : World) : Prop := ∀ b o v, g.imm b o = some v → w.cell? ⟨b, o, none⟩ = some v
theorem Sim.agree {w0 w : World} {g : Ghost} {h : AHeap} (S : Sim w0 g h w) : Agree g w := S.imm

/-! Sums and comparisons. -/
def aint (op : BinOp) (k : IntKind) (a b : Int) : Option AV :=
  match op with
  | .add => some (.int k (k.wrap (a + b)))
  | .sub => some (.int k (k.wrap (a - b)))
  | .mul => some (.int k (k.wrap (a * b)))
  | .quo => if b = 0 then none else some (.int k (k.wrap (a.tdiv b)))
  | .rem => if b = 0 then none else some (.int k (a.tmod b))
  | .and => some (.int k (bits .and k a b))
  | .or => some (.int k (bits .or k a b))
  | .xor => some (.int k (bits .xor k a b))
  | .andNot => some (.int k (bits .andNot k a b))
  | .eql => some (.bool (a == b))
  | .neq => some (.bool (a != b))
  | .lss => some (.bool (decide (a < b)))
  | .leq => some (.bool (decide (a ≤ b)))
  | .gtr => some (.bool (decide (b < a)))
  | .geq => some (.bool (decide (b ≤ a)))
  | _ => none
def ashift (op : BinOp) (k : IntKind) (a b : Int) : Option AV :=
  match op with
  | .shl => if b < 0 then none else some (.int k (k.wrap (a * 2 ^ min b.toNat k.bits)))
  | .shr => if b < 0 then none else some (.int k (a / (2 ^ min b.toNat k.bits)))
  | _ => none
def astr (op : BinOp) (a b : List UInt8) : Option AV :=
  match op with
  | .add => if a.length + b.length ≤ 9223372036854775807 then some (.str (a ++ b)) else none
  | .eql => some (.bool (a == b))
  | .neq => some (.bool !(a == b))
  | .lss => some (.bool (Op.bytesLess a b))
  | _ => none

def isAggT (P : Program) (t : TypeId) : Option Bool :=
  match P.underlying t with
  | some (.struct _) => some true
  | some (.array _ _) => some true
  | some _ => some false
  | none => none
def sizeT (P : Program) (t : TypeId) : Option Nat := (P.info? t).map (·.size)
def partA (P : Program) (t : TypeId) (cs : List AV) (off : Nat) : Option AV :=
  match isAggT P t, sizeT P t with
  | some true, some n => if off + n ≤ cs.length then some (.agg ((cs.drop off).take n)) else none
  | some false, _ => cs[off]?
  | _, _ => none

mutual
def eqV (P : Program) : Nat → TypeId → AV → AV → Option Bool
  | 0, _, _, _ => none
  | d + 1, t, x, y =>
    match P.underlying t, x, y with
    | some .bool, .bool a, .bool b => some (a == b)
    | some (.int _), .int k a, .int k' b => if k = k' then some (a == b) else none
    | some .string, .str a, .str b => some (a == b)
    | some (.struct fs), .agg xs, .agg ys => if P.stoodInHeld t then none else eqFs P d fs.toList xs ys
    | _, _, _ => none
def eqFs (P : Program) : Nat → List Field → List AV → List AV → Option Bool
  | _, [], _, _ => some true
  | d, f :: fs, xs, ys =>
    if f.name = "_" then none
    else match partA P f.type xs f.offset, partA P f.type ys f.offset with
      | some a, some b => match eqV P d f.type a b, eqFs P d fs xs ys with
        | some r, some r' => some (r && r')
        | _, _ => none
      | _, _ => none
end

section
variable {P : Program} {g : Ghost}
theorem isAggT_run {t : TypeId} {b : Bool} (h : isAggT P t = some b) (w : World) : (isAgg t).run P w = .ok b w := by
  unfold isAggT at h
  unfold isAgg
  cases hu : P.underlying t with
  | none => rw [hu] at h; cases h
  | some d =>
    rw [hu] at h
    rw [Sem.run_bind, run_underlying hu w]
    cases d <;> (simp only [Option.some.injEq] at h; subst h; rfl)
theorem sizeT_run {t : TypeId} {n : Nat} (h : sizeT P t = some n) (w : World) : (sizeOf t).run P w = .ok n w := by
  unfold sizeT at h
  cases hi : P.info? t with
  | none => rw [hi] at h; cases h
  | some i => rw [hi] at h; simp at h; simp [sizeOf, typeInfo, hi, h]
theorem partA_sound {t : TypeId} {cs : List AV} {vs : Array Value} {off : Nat} {x : AV} (h : partA P t cs off = some x) (hc : CellsRel g cs vs.toList) :
    ∃ v, VRel g x v ∧ ∀ w, (part t vs off).run P w = .ok v w := by
  unfold partA at h
  cases ha : isAggT P t with
  | none => rw [ha] at h; cases h
  | some b =>
    rw [ha] at h
    cases b with
    | true =>
      cases hs : sizeT P t with
      | none => rw [hs] at h; cases h
      | some n =>
        rw [hs] at h
        simp only at h
        split at h
        · rename_i hl
          injection h with h
          subst h
          have hlen : cs.length = vs.size := by simpa using hc.1
          refine ⟨.agg (vs.extract off (off + n)), .agg _ _ (by simp; omega) fun i h1 h2 => ?_, fun w => ?_⟩
          · have := hc.2 (off + i) (by simp at h1; omega) (by simp at h1; simp; omega)
            simpa using this
          · simp [part, isAggT_run ha, sizeT_run hs]
        · cases h
    | false =>
      simp only at h
      have hlt := (List.getElem?_eq_some_iff.1 h)
      obtain ⟨hl, he⟩ := hlt
      have hlen : cs.length = vs.size := by simpa using hc.1
      refine ⟨vs[off]'(by omega), by have := hc.2 off hl (by simp; omega); rw [he] at this; simpa using this, fun w => ?_⟩
      have : vs[off]? = some (vs[off]'(by omega)) := Array.getElem?_eq_getElem (by omega)
      simp [part, isAggT_run ha, this]
theorem VRel.agg_cells {cs : List AV} {v : Value} (h : VRel g (.agg cs) v) : ∃ vs, v = .agg vs ∧ CellsRel g cs vs.toList := by
  cases h with
  | agg _ vs hl hh => exact ⟨vs, rfl, by simpa using hl, fun i a b => by simpa using hh i a (by simpa using b)⟩
theorem VRel.tuple_cells {cs : List AV} {v : Value} (h : VRel g (.tuple cs) v) : ∃ vs, v = .tuple vs ∧ CellsRel g cs vs.toList := by
  cases h with
  | tuple _ vs hl hh => exact ⟨vs, rfl, by simpa using hl, fun i a b => by simpa using hh i a (by simpa using b)⟩
theorem eqFs_sound (d n : Nat) (ih : ∀ t x y r vx vy, eqV P d t x y = some r → VRel g x vx → VRel g y vy → ∀ w, (Op.equalIn (d + n) t vx vy).run P w = .ok r w) :
    ∀ (fs : List Field) (xs ys : List AV) (vx vy : Array Value) (r : Bool), eqFs P d fs xs ys = some r → CellsRel g xs vx.toList → CellsRel g ys vy.toList → ∀ w, (Op.eqFields (d + n) vx vy fs).run P w = .ok r w
  | [], xs, ys, vx, vy, r, h, hx, hy, w => by
    rw [eqFs] at h
    injection h with h
    subst h
    simp [Op.eqFields]
  | f :: fs, xs, ys, vx, vy, r, h, hx, hy, w => by
    rw [eqFs] at h
    split at h
    · cases h
    · rename_i hn
      cases ha : partA P f.type xs f.offset with
      | none => rw [ha] at h; cases h
      | some a =>
        cases hb : partA P f.type ys f.offset with
        | none => rw [ha, hb] at h; cases h
        | some b =>
          rw [ha, hb] at h
          simp only at h
          cases he : eqV P d f.type a b with
          | none => rw [he] at h; cases h
          | some r1 =>
            cases hf : eqFs P d fs xs ys with
            | none => rw [he, hf] at h; cases h
            | some r2 =>
              rw [he, hf] at h
              injection h with h
              obtain ⟨va, hva, ra⟩ := partA_sound ha hx
              obtain ⟨vb, hvb, rb⟩ := partA_sound hb hy
              have r3 := eqFs_sound d n ih fs xs ys vx vy r2 hf hx hy w
              have r4 := ih f.type a b r1 va vb he hva hvb w
              simp only [Op.eqFields, if_pos (show f.name ≠ "_" from hn), Sem.run_bind, ra, rb, r4, Result.andThen_ok]
              cases r1 with
              | false => simp at h; subst h; simp
              | true => simp at h; subst h; simpa using r3
theorem eqV_sound (n : Nat) : ∀ (d : Nat) (t : TypeId) (x y : AV) (r : Bool) (vx vy : Value), eqV P d t x y = some r → VRel g x vx → VRel g y vy → ∀ w, (Op.equalIn (d + n) t vx vy).run P w = .ok r w
  | 0, t, x, y, r, vx, vy, h, _, _, _ => by rw [eqV] at h; cases h
  | d + 1, t, x, y, r, vx, vy, h, hx, hy, w => by
    unfold eqV at h
    rw [show d + 1 + n = (d + n) + 1 by omega]
    split at h
    · rename_i a b hu; injection h with h; subst h
      rw [hx.bool_eq, hy.bool_eq]; exact run_equalIn_bool' w _ t a b hu
    · rename_i k0 k a k' b hu
      split at h
      · rename_i hk; injection h with h; subst h; subst hk
        rw [hx.int_eq, hy.int_eq]; exact run_equalIn_int w _ t k _ a b hu
      · cases h
    · rename_i a b hu; injection h with h; subst h
      rw [hx.str_eq, hy.str_eq, run_equalIn_string w _ t _ _ hu]; simp
    · rename_i fs xs ys hu
      split at h
      · cases h
      · rename_i hs
        obtain ⟨vs, rfl, hcx⟩ := hx.agg_cells
        obtain ⟨us, rfl, hcy⟩ := hy.agg_cells
        have hfo : P.fieldsOf t = fs := by simp [Program.fieldsOf, hu]
        rw [run_equalIn_struct w _ t vs us (by rw [hfo]; exact hu) (by simpa using hs), hfo]
        exact eqFs_sound d n (fun t x y r vx vy a b c w => eqV_sound n d t x y r vx vy a b c w) fs.toList xs ys vs us r h hcx hcy w
    · cases h
end
end Go.Proofs.Ytajgeofhlgoifaa.V
