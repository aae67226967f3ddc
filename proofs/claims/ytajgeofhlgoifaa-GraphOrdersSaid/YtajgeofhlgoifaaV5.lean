/- Operations that read nothing but what is fixed: sums, comparisons, conversions. No program is named here. -/
import Derived.Test.YtajgeofhlgoifaaV4
import Derived.WalkSpells
import Derived.Laws.Slices
set_option linter.unusedVariables false
set_option linter.unusedSimpArgs false
namespace Go.Proofs.Ytajgeofhlgoifaa.V
open Go Go.RowKit

/-- A computation that hangs on nothing but what is fixed. -/
def Yield (P : Program) (g : Ghost) (x : AV) (s : Sem Value) : Prop := ∃ v, VRel g x v ∧ ∀ w, Agree g w → s.run P w = .ok v w

def nilT (P : Program) (t : TypeId) (op : BinOp) (isNil : Bool) (ok : TypeDesc → Bool) : Option AV :=
  match P.underlying t with
  | some d => if ok d then (match op with | .eql => some (.bool isNil) | .neq => some (.bool !isNil) | _ => none) else none
  | none => none
def TypeDesc.isPtr : TypeDesc → Bool | .pointer _ => true | _ => false
def TypeDesc.isMap : TypeDesc → Bool | .map _ _ => true | _ => false
def TypeDesc.isFunc : TypeDesc → Bool | .func _ _ _ => true | _ => false
def TypeDesc.isBool : TypeDesc → Bool | .bool => true | _ => false

def abin (P : Program) (op : BinOp) (t : TypeId) (x y : AV) : Option AV :=
  match x, y with
  | .int k a, .int k' b =>
    match op with
    | .shl => ashift .shl k a b
    | .shr => ashift .shr k a b
    | op => if k = k' then aint op k a b else none
  | .str a, .str b => astr op a b
  | .bool a, .bool b => nilT P t op (a == b) TypeDesc.isBool
  | .nilptr, .nilptr => nilT P t op true TypeDesc.isPtr
  | .nilptr, .ptr _ _ => nilT P t op false TypeDesc.isPtr
  | .ptr _ _, .nilptr => nilT P t op false TypeDesc.isPtr
  | .nilptr, .ref _ _ => nilT P t op false TypeDesc.isPtr
  | .ref _ _, .nilptr => nilT P t op false TypeDesc.isPtr
  | .nilmap, .nilmap => nilT P t op true TypeDesc.isMap
  | .map _, .nilmap => nilT P t op false TypeDesc.isMap
  | .nilmap, .map _ => nilT P t op false TypeDesc.isMap
  | .nilfunc, .nilfunc => nilT P t op true TypeDesc.isFunc
  | .func _ _ _, .nilfunc => nilT P t op false TypeDesc.isFunc
  | .nilfunc, .func _ _ _ => nilT P t op false TypeDesc.isFunc
  | .agg xs, .agg ys =>
    if P.eqGuardType P.depth t then none
    else match op, eqV P 8 t (.agg xs) (.agg ys) with
      | .eql, some b => some (.bool b)
      | .neq, some b => some (.bool !b)
      | _, _ => none
  | _, _ => none

section
variable {P : Program} {g : Ghost}
theorem yield_pure {x : AV} {v : Value} (h : VRel g x v) {s : Sem Value} (hs : ∀ w, s.run P w = .ok v w) : Yield P g x s := ⟨v, h, fun w _ => hs w⟩
theorem aint_sound {op : BinOp} {k : IntKind} {a b : Int} {x : AV} (h : aint op k a b = some x) (t : TypeId) : Yield P g x (binOp op t (.int k a) (.int k b)) := by
  cases op <;> simp only [aint, Option.some.injEq, reduceCtorEq] at h
  case quo =>
    split at h
    · cases h
    · injection h with h; subst h; exact yield_pure (.int _ _) fun w => by simp [binOp, Op.intDiv, *]
  case rem =>
    split at h
    · cases h
    · injection h with h; subst h; exact yield_pure (.int _ _) fun w => by simp [binOp, Op.intDiv, *]
  all_goals (subst h; first | exact yield_pure (.int _ _) fun w => by simp [binOp, Op.intArith, Op.intBits, bits] | exact yield_pure (.bool _) fun w => by simp [binOp, Op.intCmp])
theorem fdiv_pow (a : Int) (n : Nat) : a.fdiv (2 ^ n) = a / (2 ^ n) := Int.fdiv_eq_ediv_of_nonneg a (Int.le_of_lt (Int.pow_pos (by decide)))
theorem ashift_sound {op : BinOp} {k k' : IntKind} {a b : Int} {x : AV} (h : ashift op k a b = some x) (t : TypeId) : Yield P g x (binOp op t (.int k a) (.int k' b)) := by
  cases op <;> simp only [ashift, reduceCtorEq] at h
  case shr =>
    split at h
    · cases h
    · rename_i hb
      injection h with h; subst h
      refine yield_pure (.int _ _) fun w => ?_
      rw [← fdiv_pow]
      simp [binOp, Op.shift, hb]
  all_goals
    split at h
    · cases h
    · injection h with h; subst h; exact yield_pure (.int _ _) fun w => by simp [binOp, Op.shift, *]
theorem astr_sound {op : BinOp} {a b : List UInt8} {x : AV} (h : astr op a b = some x) (t : TypeId) : Yield P g x (binOp op t (.string ⟨a.toArray⟩) (.string ⟨b.toArray⟩)) := by
  cases op <;> simp only [astr, reduceCtorEq, Option.some.injEq] at h
  case add =>
    split at h
    · rename_i hl
      injection h with h
      subst h
      refine yield_pure (v := .string (⟨a.toArray⟩ ++ ⟨b.toArray⟩)) ?_ fun w => ?_
      · have e : (⟨a.toArray⟩ ++ ⟨b.toArray⟩ : ByteArray) = ⟨(a ++ b).toArray⟩ := by
          apply ByteArray.ext; simp [ByteArray.data_append]
        rw [e]; exact .str _
      · have hs : ∀ l : List UInt8, (⟨l.toArray⟩ : ByteArray).size = l.length := fun l => rfl
        rw [binOp_string_add]
        have : ¬ (((⟨a.toArray⟩ : ByteArray).size + (⟨b.toArray⟩ : ByteArray).size : Nat) : Int) > IntKind.i64.max := by rw [IntKind.max_i64, hs, hs]; omega
        simp only [Op.stringOp, if_neg this]; rfl
    · cases h
  all_goals (subst h; exact yield_pure (.bool _) fun w => by simp [binOp, Op.stringOp])
theorem nilT_sound {op : BinOp} {t : TypeId} {b : Bool} {ok : TypeDesc → Bool} {x : AV} (h : nilT P t op b ok = some x) {vx vy : Value}
    (hr : ∀ d n, P.underlying t = some d → ok d = true → ∀ w, (Op.equalIn (n + 1) t vx vy).run P w = .ok b w)
    (hb : ∀ s : Sem Bool, (∀ w, (Op.equal t vx vy).run P w = .ok b w) → (∀ w, (binOp .eql t vx vy).run P w = .ok (.bool b) w) ∧ (∀ w, (binOp .neq t vx vy).run P w = .ok (.bool !b) w)) :
    Yield P g x (binOp op t vx vy) := by
  unfold nilT at h
  cases hu : P.underlying t with
  | none => rw [hu] at h; cases h
  | some d =>
    rw [hu] at h
    simp only at h
    split at h
    · rename_i hok
      have h1 : ∀ w, (Op.equal t vx vy).run P w = .ok b w := fun w => by unfold Op.equal Op.maxDepth; exact hr d 9999 hu hok w
      obtain ⟨h2, h3⟩ := hb (Op.equal t vx vy) h1
      cases op <;> simp only [reduceCtorEq, Option.some.injEq] at h
      · subst h; exact yield_pure (.bool _) h2
      · subst h; exact yield_pure (.bool _) h3
    · cases h

theorem guard_drop {op : BinOp} {t : TypeId} {ox oy : Operand} {vx vy : Value} {x : AV} (hg : ∀ w, (eqGuard op t ox oy vx vy).run P w = .ok () w) (h : Yield P g x (binOp op t vx vy)) :
    Yield P g x (do eqGuard op t ox oy vx vy; binOp op t vx vy) := by
  obtain ⟨v, hv, hr⟩ := h
  exact ⟨v, hv, fun w ha => by simp [Sem.run_bind, hg w, hr w ha]⟩
theorem abin_sound {op : BinOp} {t : TypeId} {x y z : AV} (h : abin P op t x y = some z) (ox oy : Operand) {vx vy : Value} (hx : VRel g x vx) (hy : VRel g y vy) :
    Yield P g z (do eqGuard op t ox oy vx vy; binOp op t vx vy) := by
  unfold abin at h
  split at h
  · rename_i k a k' b
    rw [hx.int_eq, hy.int_eq]
    refine guard_drop (fun w => by simp [go_sem]) ?_
    split at h
    · exact ashift_sound h t
    · exact ashift_sound h t
    · split at h
      · rename_i e; subst e; exact aint_sound h t
      · cases h
  · rw [hx.str_eq, hy.str_eq]
    exact guard_drop (fun w => by simp [go_sem]) (astr_sound h t)
  · rename_i a b
    rw [hx.bool_eq, hy.bool_eq]
    refine guard_drop (fun w => by simp [go_sem]) (nilT_sound h (fun d n hu hok w => ?_) fun s hs => ?_)
    · cases d <;> simp [TypeDesc.isBool] at hok
      exact run_equalIn_bool' w n t a b hu
    · exact ⟨fun w => by simp [binOp, hs w], fun w => by simp [binOp, hs w]⟩
  all_goals try (
    refine guard_drop (fun w => ?_) (nilT_sound h (fun d n hu hok w => ?_) fun s hs => ?_)
    · cases hx <;> cases hy <;> simp [go_sem]
    · cases d <;> simp [TypeDesc.isPtr, TypeDesc.isMap, TypeDesc.isFunc] at hok
      cases hx <;> cases hy <;> simp [Op.equalIn, run_underlying hu]
    · cases hx <;> cases hy <;> exact ⟨fun w => by simp [binOp, hs w], fun w => by simp [binOp, hs w]⟩
    done)
  · rename_i xs ys
    split at h
    · cases h
    · rename_i hgt
      obtain ⟨vs, rfl, hcx⟩ := hx.agg_cells
      obtain ⟨us, rfl, hcy⟩ := hy.agg_cells
      refine guard_drop (fun w => run_eqGuard_agg w op t ox oy vs us (by simpa using hgt)) ?_
      split at h
      · rename_i b hb
        injection h with h; subst h
        refine yield_pure (.bool b) fun w => ?_
        have := eqV_sound (P := P) 9992 8 t _ _ b _ _ hb hx hy w
        have e : (Op.equal t (.agg vs) (.agg us)).run P w = .ok b w := by unfold Op.equal Op.maxDepth; exact this
        simp [binOp, e]
      · rename_i b hb
        injection h with h; subst h
        refine yield_pure (.bool _) fun w => ?_
        have := eqV_sound (P := P) 9992 8 t _ _ b _ _ hb hx hy w
        have e : (Op.equal t (.agg vs) (.agg us)).run P w = .ok b w := by unfold Op.equal Op.maxDepth; exact this
        simp [binOp, e]
      · cases h
  · cases h
end
end Go.Proofs.Ytajgeofhlgoifaa.V
