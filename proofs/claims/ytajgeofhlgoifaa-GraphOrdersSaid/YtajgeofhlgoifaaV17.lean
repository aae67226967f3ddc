/- How the abstract states are worked out: rules for simp. No program is named here. -/
import Derived.Test.YtajgeofhlgoifaaV16
import Derived.KernelRfl
set_option linter.unusedVariables false
set_option linter.unusedSimpArgs false
namespace Go.Proofs.Ytajgeofhlgoifaa.V
open Go Go.RowKit

/-! A region's operations, worked out: what remains to be done is data. -/
inductive StepR where
  | fail
  | val (x : AV) (h : AHeap)
  | call (f : FuncId) (xs : List AV)
  | yield (l : Nat) (xs : List AV)
inductive Res where
  | fail
  | done (s : Slots) (h : AHeap)
  | call (f : FuncId) (xs : List AV) (d : Option Nat) (l : List Oper) (s : Slots) (h : AHeap)
  | yield (i : Nat) (xs : List AV) (d : Option Nat) (l : List Oper) (s : Slots) (h : AHeap)
inductive ResT where
  | fail
  | done (s : Slots) (h : AHeap)
  | call (f : FuncId) (xs : List AV) (d : Option Nat) (t : Reg.Tree) (s : Slots) (h : AHeap)
  | two (i j : Nat) (t u : Reg.Tree) (s : Slots) (h : AHeap)
  | three (i j k : Nat) (t u v : Reg.Tree) (s : Slots) (h : AHeap)
def ofOp (r : Option (AV × AHeap)) : StepR :=
  match r with
  | some p => .val p.1 p.2
  | none => .fail
def ofQ (r : Option AV) (h : AHeap) : StepR :=
  match r with
  | some x => .val x h
  | none => .fail
def stepV (P : Program) (op : Op) (s : Slots) (h : AHeap) : StepR :=
  match ayield op s with
  | some (l, xs) => .yield l xs
  | none => match acallee P op s with
    | some (f, xs) => .call f xs
    | none => ofOp (aop P op s h)
def runOps (P : Program) (ops : Array Oper) (n : Nat) : List Oper → Slots → AHeap → Res
  | [], s, h => .done s h
  | o :: l, s, h =>
    match guardB ops s o with
    | .bool b => bif b then (match stepV P o.op s h with
      | .val x h' => runOps P ops n l (Slots.put n s o.dst x) h'
      | .call f xs => .call f xs o.dst l s h
      | .yield i xs => .yield i xs o.dst l s h
      | .fail => .fail) else runOps P ops n l (Slots.put n s o.dst (.tuple [])) h
    | _ => .fail
def contG (P : Program) (ops : Array Oper) (n : Nat) (g : AV) (r : StepR) (d : Option Nat) (l : List Oper) (s : Slots) (h : AHeap) : Res :=
  match g with
  | .bool b => bif b then (match r with
      | .val x h' => runOps P ops n l (Slots.put n s d x) h'
      | .call f xs => .call f xs d l s h
      | .yield i xs => .yield i xs d l s h
      | .fail => .fail) else runOps P ops n l (Slots.put n s d (.tuple [])) h
  | _ => .fail
def runTree (P : Program) (ops : Array Oper) (n : Nat) : Reg.Tree → Slots → AHeap → ResT
  | .done, s, h => .done s h
  | .a i t, s, h =>
    match ops[i]? with
    | none => .fail
    | some o => match guardB ops s o with
      | .bool b => bif b then (match stepV P o.op s h with
        | .val x h' => runTree P ops n t (Slots.put n s o.dst x) h'
        | .call f xs => .call f xs o.dst t s h
        | _ => .fail) else runTree P ops n t (Slots.put n s o.dst (.tuple [])) h
      | _ => .fail
  | .q i t, s, h =>
    match ops[i]? with
    | none => .fail
    | some o => match guardB ops s o with
      | .bool b => bif b then (match ofQ (aqS P o.op s h) h with
        | .val x _ => runTree P ops n t (Slots.put n s o.dst x) h
        | _ => .fail) else runTree P ops n t (Slots.put n s o.dst (.tuple [])) h
      | _ => .fail
  | .two i j t u, s, h => .two i j t u s h
  | .three i j k t u v, s, h => .three i j k t u v s h
def contT (P : Program) (ops : Array Oper) (n : Nat) (g : AV) (r : StepR) (d : Option Nat) (t : Reg.Tree) (s : Slots) (h : AHeap) : ResT :=
  match g with
  | .bool b => bif b then (match r with
      | .val x h' => runTree P ops n t (Slots.put n s d x) h'
      | .call f xs => .call f xs d t s h
      | _ => .fail) else runTree P ops n t (Slots.put n s d (.tuple [])) h
  | _ => .fail
def contQ (P : Program) (ops : Array Oper) (n : Nat) (g : AV) (r : StepR) (d : Option Nat) (t : Reg.Tree) (s : Slots) (h : AHeap) : ResT :=
  match g with
  | .bool b => bif b then (match r with
      | .val x _ => runTree P ops n t (Slots.put n s d x) h
      | _ => .fail) else runTree P ops n t (Slots.put n s d (.tuple [])) h
  | _ => .fail
/-- What is to be shown of what came out. -/
def Goes {P : Program} (E : Env P) (ops : Array Oper) (n : Nat) (K : Slots → AHeap → Prop) : Res → Prop
  | .fail => False
  | .done s h => K s h
  | .call f xs d l s h => ACallOp P f xs h fun x h' => ARun E ops n l (Slots.put n s d x) h' K
  | .yield i xs d l s h => E.Y i xs h fun x h' => ARun E ops n l (Slots.put n s d x) h' K
def GoesT (P : Program) (ops : Array Oper) (n : Nat) (K : Slots → AHeap → Prop) : ResT → Prop
  | .fail => False
  | .done s h => K s h
  | .call f xs d t s h => ACallOp P f xs h fun x h' => ATree P ops n t (Slots.put n s d x) h' K
  | .two i j t u s h => ATree P ops n (.two i j t u) s h K
  | .three i j k t u v s h => ATree P ops n (.three i j k t u v) s h K

section
variable {P : Program} {E : Env P} {ops : Array Oper} {n : Nat} {K : Slots → AHeap → Prop}
theorem stepV_sound {op : Op} {s : Slots} {h : AHeap} {K' : AV → AHeap → Prop} (k : match stepV P op s h with | .val x h' => K' x h' | .call f xs => ACallOp P f xs h K' | _ => False) : AStep P op s h K' := by
  unfold stepV at k
  unfold AStep
  split at k
  · rename_i hy
    split at hy
    · cases hy
    · split at hy
      · cases hy
      · rename_i hc
        rw [hc]
        cases ha : aop P op s h with
        | none => rw [ha] at hy; cases hy
        | some p => rw [ha] at hy; injection hy with h1 h2; subst h1; subst h2; exact k
  · rename_i f xs hy
    split at hy
    · cases hy
    · split at hy
      · rename_i hc
        injection hy with h1 h2
        subst h1; subst h2
        rw [hc]; exact k
      · cases ha : aop P op s h with
        | none => rw [ha] at hy; cases hy
        | some p => rw [ha] at hy; cases hy
  · exact k.elim
theorem stepVE_sound {op : Op} {s : Slots} {h : AHeap} {K' : AV → AHeap → Prop} (k : match stepV P op s h with | .val x h' => K' x h' | .call f xs => ACallOp P f xs h K' | .yield l xs => E.Y l xs h K' | .fail => False) : AStepE E op s h K' := by
  unfold AStepE
  cases hy : ayield op s with
  | some p => obtain ⟨l, xs⟩ := p; unfold stepV at k; rw [hy] at k; exact k
  | none =>
    refine stepV_sound ?_
    cases hs : stepV P op s h with
    | fail => rw [hs] at k; exact k.elim
    | val x h' => rw [hs] at k; exact k
    | call f xs => rw [hs] at k; exact k
    | yield l xs =>
      unfold stepV at hs
      rw [hy] at hs
      simp only at hs
      split at hs
      · cases hs
      · cases ha : aop P op s h with
        | none => rw [ha] at hs; cases hs
        | some p => rw [ha] at hs; cases hs
theorem run_start : ∀ {l : List Oper} {s : Slots} {h : AHeap}, Goes E ops n K (runOps P ops n l s h) → ARun E ops n l s h K
  | [], s, h, k => k
  | o :: l, s, h, k => by
    unfold runOps at k
    unfold ARun
    cases hg : guardB ops s o with
    | bool b =>
      rw [hg] at k
      simp only at k
      simp only [wantedThen]
      cases b with
      | true =>
        rw [if_pos rfl]
        simp only [cond_true] at k
        refine stepVE_sound ?_
        cases hs : stepV P o.op s h with
        | fail => rw [hs] at k; exact k
        | val x h' => rw [hs] at k; exact run_start k
        | call f xs => rw [hs] at k; exact k
        | yield l xs => rw [hs] at k; exact k
      | false =>
        rw [if_neg (by simp)]
        exact run_start k
    | _ => rw [hg] at k; exact k.elim
theorem aqAt_sound {i : Nat} {o : Oper} {s : Slots} {h : AHeap} {K' : Slots → Prop} (ho : ops[i]? = some o)
    (k : wantedThen (guardB ops s o) (bindQ (aqS P o.op s h) fun x => K' (Slots.put n s o.dst x)) (K' (Slots.put n s o.dst (.tuple [])))) : AQAt P ops n i s h K' := by
  unfold AQAt; rw [ho]; exact k
theorem tree_start : ∀ {t : Reg.Tree} {s : Slots} {h : AHeap}, GoesT P ops n K (runTree P ops n t s h) → ATree P ops n t s h K
  | .done, s, h, k => k
  | .a i t, s, h, k => by
    unfold runTree at k
    unfold ATree AAt
    cases ho : ops[i]? with
    | none => rw [ho] at k; exact k.elim
    | some o =>
      rw [ho] at k
      simp only at k ⊢
      cases hg : guardB ops s o with
      | bool b =>
        rw [hg] at k
        simp only at k
        simp only [wantedThen]
        cases b with
        | true =>
          rw [if_pos rfl]
          simp only [cond_true] at k
          refine stepV_sound ?_
          cases hs : stepV P o.op s h with
          | fail => rw [hs] at k; exact k
          | val x h' => rw [hs] at k; exact tree_start k
          | call f xs => rw [hs] at k; exact k
          | yield l xs => rw [hs] at k; exact k
        | false =>
          rw [if_neg (by simp)]
          exact tree_start k
      | _ => rw [hg] at k; exact k.elim
  | .q i t, s, h, k => by
    unfold runTree at k
    unfold ATree AQAt
    cases ho : ops[i]? with
    | none => rw [ho] at k; exact k.elim
    | some o =>
      rw [ho] at k
      simp only at k ⊢
      cases hg : guardB ops s o with
      | bool b =>
        rw [hg] at k
        simp only at k
        simp only [wantedThen]
        cases b with
        | true =>
          rw [if_pos rfl]
          simp only [cond_true] at k
          cases hs : aqS P o.op s h with
          | none => rw [hs] at k; exact k.elim
          | some x => rw [hs] at k; exact tree_start k
        | false =>
          rw [if_neg (by simp)]
          exact tree_start k
      | _ => rw [hg] at k; exact k.elim
  | .two i j t u, s, h, k => k
  | .three i j k1 t u v, s, h, k => k
theorem goes_eq {r r' : Res} (e : r = r') (k : Goes E ops n K r') : Goes E ops n K r := e ▸ k
theorem goesT_eq {r r' : ResT} (e : r = r') (k : GoesT P ops n K r') : GoesT P ops n K r := e ▸ k
theorem goes_done {s : Slots} {h : AHeap} (k : K s h) : Goes E ops n K (.done s h) := k
theorem goesT_done {s : Slots} {h : AHeap} (k : K s h) : GoesT P ops n K (.done s h) := k
/-- A call: by its contract. -/
theorem goes_call {f : FuncId} {xs : List AV} {d : Option Nat} {l : List Oper} {s : Slots} {h : AHeap} (hf : callable P f) (R : AV → AHeap → Prop) (c : ACalls P f xs h R) (k : ∀ x h', R x h' → Goes E ops n K (runOps P ops n l (Slots.put n s d x) h')) :
    Goes E ops n K (.call f xs d l s h) := ⟨hf, c.mono fun x h' r => run_start (k x h' r)⟩
theorem goesT_call {f : FuncId} {xs : List AV} {d : Option Nat} {t : Reg.Tree} {s : Slots} {h : AHeap} (hf : callable P f) (R : AV → AHeap → Prop) (c : ACalls P f xs h R) (k : ∀ x h', R x h' → GoesT P ops n K (runTree P ops n t (Slots.put n s d x) h')) :
    GoesT P ops n K (.call f xs d t s h) := ⟨hf, c.mono fun x h' r => tree_start (k x h' r)⟩
theorem goes_callS {f : FuncId} {xs ys : List AV} {d : Option Nat} {l : List Oper} {s : Slots} {h : AHeap} (hf : callable P f) (hy : xs.map AV.strip = ys) (R : AV → AHeap → Prop) (c : ACalls P f ys h R) (k : ∀ x h', R x h' → Goes E ops n K (runOps P ops n l (Slots.put n s d x) h')) :
    Goes E ops n K (.call f xs d l s h) := goes_call hf R (by subst hy; exact c.stripped) k
theorem goesT_callS {f : FuncId} {xs ys : List AV} {d : Option Nat} {t : Reg.Tree} {s : Slots} {h : AHeap} (hf : callable P f) (hy : xs.map AV.strip = ys) (R : AV → AHeap → Prop) (c : ACalls P f ys h R) (k : ∀ x h', R x h' → GoesT P ops n K (runTree P ops n t (Slots.put n s d x) h')) :
    GoesT P ops n K (.call f xs d t s h) := goesT_call hf R (by subst hy; exact c.stripped) k
theorem goes_ask {b : Bool} {r : StepR} {d : Option Nat} {l : List Oper} {s : Slots} {h : AHeap} (h1 : b = true → Goes E ops n K (contG P ops n (.bool true) r d l s h)) (h2 : b = false → Goes E ops n K (contG P ops n (.bool false) r d l s h)) : Goes E ops n K (contG P ops n (.bool b) r d l s h) := by
  cases b
  · exact h2 rfl
  · exact h1 rfl
@[simp] theorem runOps_nil {s : Slots} {h : AHeap} : runOps P ops n [] s h = .done s h := rfl
@[simp] theorem runOps_cons {o : Oper} {l : List Oper} {s : Slots} {h : AHeap} : runOps P ops n (o :: l) s h = contG P ops n (guardB ops s o) (stepV P o.op s h) o.dst l s h := rfl
@[simp] theorem contG_val {x : AV} {h' : AHeap} {d : Option Nat} {l : List Oper} {s : Slots} {h : AHeap} : contG P ops n (.bool true) (.val x h') d l s h = runOps P ops n l (Slots.put n s d x) h' := rfl
@[simp] theorem contG_call {f : FuncId} {xs : List AV} {d : Option Nat} {l : List Oper} {s : Slots} {h : AHeap} : contG P ops n (.bool true) (.call f xs) d l s h = .call f xs d l s h := rfl
@[simp] theorem contG_yield {i : Nat} {xs : List AV} {d : Option Nat} {l : List Oper} {s : Slots} {h : AHeap} : contG P ops n (.bool true) (.yield i xs) d l s h = .yield i xs d l s h := rfl
/-- A call of yield. -/
theorem goes_yield {i : Nat} {xs : List AV} {d : Option Nat} {l : List Oper} {s : Slots} {h : AHeap} (k : E.Y i xs h fun x h' => ARun E ops n l (Slots.put n s d x) h' K) : Goes E ops n K (.yield i xs d l s h) := k
@[simp] theorem contG_skip {r : StepR} {d : Option Nat} {l : List Oper} {s : Slots} {h : AHeap} : contG P ops n (.bool false) r d l s h = runOps P ops n l (Slots.put n s d (.tuple [])) h := rfl
@[simp] theorem runTree_done {s : Slots} {h : AHeap} : runTree P ops n .done s h = .done s h := rfl
def aIf (P : Program) (ops : Array Oper) (n : Nat) (o : Option Oper) (t : Reg.Tree) (s : Slots) (h : AHeap) : ResT :=
  match o with
  | none => .fail
  | some o => contT P ops n (guardB ops s o) (stepV P o.op s h) o.dst t s h
def qIf (P : Program) (ops : Array Oper) (n : Nat) (o : Option Oper) (t : Reg.Tree) (s : Slots) (h : AHeap) : ResT :=
  match o with
  | none => .fail
  | some o => contQ P ops n (guardB ops s o) (ofQ (aqS P o.op s h) h) o.dst t s h
@[simp] theorem aIf_some {o : Oper} {t : Reg.Tree} {s : Slots} {h : AHeap} : aIf P ops n (some o) t s h = contT P ops n (guardB ops s o) (stepV P o.op s h) o.dst t s h := rfl
@[simp] theorem qIf_some {o : Oper} {t : Reg.Tree} {s : Slots} {h : AHeap} : qIf P ops n (some o) t s h = contQ P ops n (guardB ops s o) (ofQ (aqS P o.op s h) h) o.dst t s h := rfl
@[simp] theorem runTree_a {i : Nat} {t : Reg.Tree} {s : Slots} {h : AHeap} {l : List Oper} : runTree P l.toArray n (.a i t) s h = aIf P l.toArray n (l[i]?) t s h := by
  have : l.toArray[i]? = l[i]? := by simp
  rw [← this]; unfold runTree aIf; cases l.toArray[i]? <;> rfl
@[simp] theorem runTree_q {i : Nat} {t : Reg.Tree} {s : Slots} {h : AHeap} {l : List Oper} : runTree P l.toArray n (.q i t) s h = qIf P l.toArray n (l[i]?) t s h := by
  have : l.toArray[i]? = l[i]? := by simp
  rw [← this]; unfold runTree qIf; cases l.toArray[i]? <;> rfl
@[simp] theorem runTree_two {i j : Nat} {t u : Reg.Tree} {s : Slots} {h : AHeap} : runTree P ops n (.two i j t u) s h = .two i j t u s h := rfl
@[simp] theorem runTree_three {i j k : Nat} {t u v : Reg.Tree} {s : Slots} {h : AHeap} : runTree P ops n (.three i j k t u v) s h = .three i j k t u v s h := rfl
@[simp] theorem contT_val {x : AV} {h' : AHeap} {d : Option Nat} {t : Reg.Tree} {s : Slots} {h : AHeap} : contT P ops n (.bool true) (.val x h') d t s h = runTree P ops n t (Slots.put n s d x) h' := rfl
@[simp] theorem contT_call {f : FuncId} {xs : List AV} {d : Option Nat} {t : Reg.Tree} {s : Slots} {h : AHeap} : contT P ops n (.bool true) (.call f xs) d t s h = .call f xs d t s h := rfl
@[simp] theorem contT_skip {r : StepR} {d : Option Nat} {t : Reg.Tree} {s : Slots} {h : AHeap} : contT P ops n (.bool false) r d t s h = runTree P ops n t (Slots.put n s d (.tuple [])) h := rfl
@[simp] theorem contQ_val {x : AV} {h' : AHeap} {d : Option Nat} {t : Reg.Tree} {s : Slots} {h : AHeap} : contQ P ops n (.bool true) (.val x h') d t s h = runTree P ops n t (Slots.put n s d x) h := rfl
@[simp] theorem contQ_skip {r : StepR} {d : Option Nat} {t : Reg.Tree} {s : Slots} {h : AHeap} : contQ P ops n (.bool false) r d t s h = runTree P ops n t (Slots.put n s d (.tuple [])) h := rfl
theorem goesT_two {i j : Nat} {t u : Reg.Tree} {s : Slots} {h : AHeap} (h1 : GoesT P ops n K (runTree P ops n (.a i t) s h)) (h2 : GoesT P ops n K (runTree P ops n (.a j u) s h)) : GoesT P ops n K (.two i j t u s h) := ⟨tree_start h1, tree_start h2⟩
theorem goesT_three {i j k : Nat} {t u v : Reg.Tree} {s : Slots} {h : AHeap} (h1 : GoesT P ops n K (runTree P ops n (.a i t) s h)) (h2 : GoesT P ops n K (runTree P ops n (.a j u) s h)) (h3 : GoesT P ops n K (runTree P ops n (.a k v) s h)) : GoesT P ops n K (.three i j k t u v s h) := ⟨tree_start h1, tree_start h2, tree_start h3⟩
theorem goesT_askT {b : Bool} {r : StepR} {d : Option Nat} {t : Reg.Tree} {s : Slots} {h : AHeap} (h1 : b = true → GoesT P ops n K (contT P ops n (.bool true) r d t s h)) (h2 : b = false → GoesT P ops n K (contT P ops n (.bool false) r d t s h)) : GoesT P ops n K (contT P ops n (.bool b) r d t s h) := by
  cases b
  · exact h2 rfl
  · exact h1 rfl
theorem goesT_askQ {b : Bool} {r : StepR} {d : Option Nat} {t : Reg.Tree} {s : Slots} {h : AHeap} (h1 : b = true → GoesT P ops n K (contQ P ops n (.bool true) r d t s h)) (h2 : b = false → GoesT P ops n K (contQ P ops n (.bool false) r d t s h)) : GoesT P ops n K (contQ P ops n (.bool b) r d t s h) := by
  cases b
  · exact h2 rfl
  · exact h1 rfl
def guardV (x : AV) (want : Bool) : AV :=
  match x with
  | .bool b => .bool (b == want)
  | .tuple [] => .bool false
  | _ => .undef
def guardG (d : Option Nat) (s : Slots) (want : Bool) : AV :=
  match d with
  | some t => guardV (Slots.get s t) want
  | none => .undef
@[simp] theorem guardV_bool {b want : Bool} : guardV (.bool b) want = .bool (b == want) := rfl
@[simp] theorem guardV_void {want : Bool} : guardV (.tuple []) want = .bool false := rfl
@[simp] theorem guardG_some {d : Nat} {s : Slots} {want : Bool} : guardG (some d) s want = guardV (Slots.get s d) want := rfl
@[simp] theorem guardB_none {s : Slots} {d : Option Tmp} {op : Op} {t : TypeId} {p : String} {e : Array Edge} : guardB ops s ⟨d, op, t, p, e, none⟩ = .bool true := rfl
@[simp] theorem guardB_some {l : List Oper} {s : Slots} {d : Option Tmp} {op : Op} {t : TypeId} {p : String} {e : Array Edge} {j : Nat} {want : Bool} :
    guardB l.toArray s ⟨d, op, t, p, e, some (j, want)⟩ = guardG ((l[j]?).bind (·.dst)) s want := by
  simp only [guardB, guardG]
  have : (l.toArray[j]?) = l[j]? := by simp
  rw [this]
  cases (l[j]?).bind (·.dst) with
  | none => rfl
  | some d =>
    simp only [guardV]
    cases Slots.get s d with
    | tuple vs => cases vs <;> rfl
    | _ => rfl

/-! Operands, slots. -/
@[simp] theorem get_cons {k t : Nat} {v : AV} {l : Slots} : Slots.get ((k, v) :: l) t = if k = t then v else Slots.get l t := rfl
@[simp] theorem get_nil {t : Nat} : Slots.get [] t = .undef := rfl
@[simp] theorem put_some {s : Slots} {d : Nat} {v : AV} : Slots.put n s (some d) v = if d < n then (d, v) :: s else s := rfl
@[simp] theorem put_none {s : Slots} {v : AV} : Slots.put n s none v = s := rfl
section
variable {s : Slots} {h : AHeap}
@[simp] theorem ev_tmp {t : Nat} : Slots.ev s (.tmp t) = Slots.get s t := rfl
@[simp] theorem ev_func {f : FuncId} : Slots.ev s (.func f) = .func (.func f) [] [] := rfl
@[simp] theorem ev_int {k : IntKind} {z : Int} : Slots.ev s (.const (.int k z)) = .int k z := rfl
@[simp] theorem ev_bool {b : Bool} : Slots.ev s (.const (.bool b)) = .bool b := rfl
@[simp] theorem ev_str {l : List UInt8} : Slots.ev s (.const (.string ⟨l.toArray⟩)) = .str l := rfl
@[simp] theorem ev_nilslice : Slots.ev s (.const (.slice none 0 0)) = .list [] .full := rfl
@[simp] theorem ev_nilptr : Slots.ev s (.const (.pointer none)) = .nilptr := rfl
@[simp] theorem ev_nilmap : Slots.ev s (.const (.map none)) = .nilmap := rfl
@[simp] theorem ev_nilfunc : Slots.ev s (.const .nilFunc) = .nilfunc := rfl
@[simp] theorem ev_niliface : Slots.ev s (.const .nilIface) = .niliface := rfl
@[simp] theorem ev_agg {l : List Value} : Slots.ev s (.const (.agg l.toArray)) = .agg (l.map AV.ofScalar) := rfl
@[simp] theorem ofScalar_int {k : IntKind} {z : Int} : AV.ofScalar (.int k z) = .int k z := rfl
@[simp] theorem ofScalar_bool {b : Bool} : AV.ofScalar (.bool b) = .bool b := rfl
@[simp] theorem ofScalar_str {l : List UInt8} : AV.ofScalar (.string ⟨l.toArray⟩) = .str l := rfl
@[simp] theorem ofScalar_nilslice : AV.ofScalar (.slice none 0 0) = .list [] .full := rfl
@[simp] theorem ofScalar_nilptr : AV.ofScalar (.pointer none) = .nilptr := rfl
@[simp] theorem ofScalar_nilmap : AV.ofScalar (.map none) = .nilmap := rfl
@[simp] theorem ofScalar_nilfunc : AV.ofScalar .nilFunc = .nilfunc := rfl
@[simp] theorem ofScalar_niliface : AV.ofScalar .nilIface = .niliface := rfl

/-! Operations. -/
@[simp] theorem ofOp_some {x : AV} {h : AHeap} : ofOp (some (x, h)) = .val x h := rfl
@[simp] theorem ofQ_some {x : AV} {h : AHeap} : ofQ (some x) h = .val x h := rfl
theorem map_ofOp {r : Option AV} : ofOp (r.map fun y => (y, h)) = ofQ r h := by cases r <;> rfl
@[simp] theorem st_move {x : Operand} : stepV P (.move x) s h = .val (Slots.ev s x) h := rfl
@[simp] theorem st_assign {x : Operand} : stepV P (.assign x) s h = .val (Slots.ev s x) h := rfl
@[simp] theorem st_pick {c a b : Operand} : stepV P (.pick c a b) s h = ofQ (apick (Slots.ev s c) (Slots.ev s a) (Slots.ev s b)) h := map_ofOp
@[simp] theorem st_binOp {op : BinOp} {t u : TypeId} {x y : Operand} : stepV P (.binOp op t x y u) s h = ofQ (abin P op t (Slots.ev s x) (Slots.ev s y)) h := map_ofOp
@[simp] theorem st_unOp {op : UnOp} {t : TypeId} {x : Operand} : stepV P (.unOp op t x) s h = ofQ (aun op (Slots.ev s x)) h := map_ofOp
@[simp] theorem st_convert {t u : TypeId} {x : Operand} : stepV P (.convert t u x) s h = ofOp (aconvH P t u (Slots.ev s x) h) := rfl
@[simp] theorem st_nilCheck {x : Operand} : stepV P (.nilCheck x) s h = ofQ (anilCheck P (Slots.ev s x)) h := map_ofOp
@[simp] theorem st_extract {x : Operand} {i : Nat} : stepV P (.extract x i) s h = ofQ (aextract (Slots.ev s x) i) h := map_ofOp
@[simp] theorem st_makeInterface {t : TypeId} {x : Operand} : stepV P (.makeInterface t x) s h = ofQ (aiface P t (Slots.ev s x)) h := map_ofOp
@[simp] theorem st_makeFunc {fn : Fn} {f c : List Operand} : stepV P (.makeFunc fn f.toArray c.toArray) s h = .val (.func fn (f.map (Slots.ev s)) (c.map (Slots.ev s))) h := rfl
@[simp] theorem st_slice {t : TypeId} {x : Operand} {lo hi mx : Option Operand} : stepV P (.slice t x lo hi mx) s h = ofOp (asliceH P t (Slots.ev s x) lo hi mx s h) := rfl
@[simp] theorem st_fieldAddr {t : TypeId} {x : Operand} {f : Nat} : stepV P (.fieldAddr t x f) s h = ofQ (afieldAt P t (Slots.ev s x) f) h := map_ofOp
@[simp] theorem st_field {t : TypeId} {x : Operand} {f : Nat} : stepV P (.field t x f) s h = ofQ (afield P t (Slots.ev s x) f) h := map_ofOp
@[simp] theorem st_indexAddr {t : TypeId} {x i : Operand} : stepV P (.indexAddr t x i) s h = ofQ (aidx P t (Slots.ev s x) (Slots.ev s i)) h := map_ofOp
@[simp] theorem st_index {t : TypeId} {x i : Operand} : stepV P (.index t x i) s h = ofQ (aindex P t (Slots.ev s x) (Slots.ev s i)) h := map_ofOp
@[simp] theorem st_load {t : TypeId} {x : Operand} : stepV P (.load t x) s h = ofOp (aload P t (Slots.ev s x) h) := rfl
@[simp] theorem st_store {t : TypeId} {x y : Operand} : stepV P (.store t x y) s h = ofOp (ahStore P t (Slots.ev s x) (Slots.ev s y) h) := rfl
def aalloc (z : Option AV) (h : AHeap) : Option (AV × AHeap) :=
  match z with
  | some z => ahNew z h
  | none => none
@[simp] theorem aalloc_some {z : AV} : aalloc (some z) h = ahNew z h := rfl
@[simp] theorem st_alloc {t : TypeId} : stepV P (.alloc t) s h = ofOp (aalloc (zeroA P t) h) := rfl
@[simp] theorem st_box {t : TypeId} {x : Operand} : stepV P (.box t x) s h = ofOp (ahNew (Slots.ev s x) h) := rfl
@[simp] theorem st_arr {t : TypeId} {x : Operand} : stepV P (.sliceToArrayPointer t x) s h = ofQ (aarr P t (Slots.ev s x)) h := map_ofOp
@[simp] theorem st_build {t : TypeId} {ps : List (Nat × Operand)} : stepV P (.build t ps.toArray) s h = ofQ (abuild P t (ps.map fun p => (p.1, Slots.ev s p.2))) h := map_ofOp
@[simp] theorem st_buildSlice {t : TypeId} {len : Nat} {ps : List (Nat × Operand)} : stepV P (.buildSlice t len ps.toArray) s h = ofOp (ahBuildSlice P t len (ps.map fun p => (p.1, (Slots.ev s p.2).untok)) h) := rfl
@[simp] theorem st_makeSlice {t : TypeId} {l c : Operand} : stepV P (.makeSlice t l c) s h = ofOp (ahMake P t (Slots.ev s l) (Slots.ev s c) h) := rfl
@[simp] theorem st_len {t : TypeId} {x : Operand} : stepV P (.call ⟨.builtin .len, #[x], #[t]⟩) s h = ofQ (alen P t (Slots.ev s x)) h := map_ofOp
@[simp] theorem st_min {ts : Array TypeId} {x y : Operand} : stepV P (.call ⟨.builtin .min, #[x, y], ts⟩) s h = ofQ (amin (Slots.ev s x) (Slots.ev s y)) h := map_ofOp
@[simp] theorem st_max {ts : Array TypeId} {x y : Operand} : stepV P (.call ⟨.builtin .max, #[x, y], ts⟩) s h = ofQ (amax (Slots.ev s x) (Slots.ev s y)) h := map_ofOp
@[simp] theorem st_append {t t2 : TypeId} {x y : Operand} : stepV P (.call ⟨.builtin .append, #[x, y], #[t, t2]⟩) s h = ofOp (ahAppend P t t2 (Slots.ev s x) (Slots.ev s y) h) := rfl
@[simp] theorem st_assert {x : Operand} {u t : TypeId} : stepV P (.typeAssert x u t true) s h = ofQ (aassert P t (Slots.ev s x)) h := map_ofOp
def callM (P : Program) (f : AV) (name : String) (args : List AV) : StepR :=
  match f with
  | .iface t v => match methT P t name with
    | some f => .call f (v :: args)
    | none => .fail
  | _ => .fail
@[simp] theorem callM_iface {t : TypeId} {v : AV} {name : String} {args : List AV} : callM P (.iface t v) name args = match methT P t name with | some f => .call f (v :: args) | none => .fail := rfl
@[simp] theorem st_invoke {f : Operand} {name : String} {xs : List Operand} {ts : Array TypeId} : stepV P (.call ⟨.invoke f name, xs.toArray, ts⟩) s h = callM P (Slots.ev s f) name (xs.map (Slots.ev s)) := by
  unfold stepV ayield acallee methCallee callM
  simp only
  cases hf : Slots.ev s f with
  | iface t v => simp only; cases methT P t name <;> simp [aop, acallH, acallQ, ofOp]
  | _ => simp [aop, acallH, acallQ, ofOp]
def callV (f : AV) (args : List AV) : StepR :=
  match f with
  | .func (.func id) first captured => .call id (first ++ args ++ captured)
  | .func (.yield l) [] [] => .yield l args
  | _ => .fail
@[simp] theorem callV_yield {l : Nat} {args : List AV} : callV (.func (.yield l) [] []) args = .yield l args := rfl
@[simp] theorem callV_func {id : FuncId} {first captured args : List AV} : callV (.func (.func id) first captured) args = .call id (first ++ args ++ captured) := rfl
@[simp] theorem st_call {f : Operand} {xs : List Operand} {ts : Array TypeId} : stepV P (.call ⟨.value f, xs.toArray, ts⟩) s h = callV (Slots.ev s f) (xs.map (Slots.ev s)) := by
  unfold stepV ayield acallee callV
  simp only
  cases hf : Slots.ev s f with
  | func fn a b => cases fn <;> cases a <;> cases b <;> simp [aop, acallH, acallQ, ofOp]
  | _ => simp [aop, acallH, acallQ, ofOp]

/-! Operations that stand first in a region that draws. -/
def asliceQ (P : Program) (t : TypeId) (x : AV) (lo hi mx : Option Operand) (s : Slots) (h : AHeap) : Option AV :=
  match x with
  | .ptr id off => (ahSliceArr P t (.ptr id off) lo hi mx h).map (·.1)
  | y => aslice P t y (lo.map (Slots.ev s)) (hi.map (Slots.ev s)) (mx.map (Slots.ev s))
@[simp] theorem q_slice {t : TypeId} {x : Operand} {lo hi mx : Option Operand} : aqS P (.slice t x lo hi mx) s h = asliceQ P t (Slots.ev s x) lo hi mx s h := by
  unfold aqS asliceQ; rfl
@[simp] theorem q_move {x : Operand} : aqS P (.move x) s h = some (Slots.ev s x) := rfl
@[simp] theorem q_assign {x : Operand} : aqS P (.assign x) s h = some (Slots.ev s x) := rfl
@[simp] theorem q_pick {c a b : Operand} : aqS P (.pick c a b) s h = apick (Slots.ev s c) (Slots.ev s a) (Slots.ev s b) := rfl
@[simp] theorem q_binOp {op : BinOp} {t u : TypeId} {x y : Operand} : aqS P (.binOp op t x y u) s h = abin P op t (Slots.ev s x) (Slots.ev s y) := rfl
@[simp] theorem q_unOp {op : UnOp} {t : TypeId} {x : Operand} : aqS P (.unOp op t x) s h = aun op (Slots.ev s x) := rfl
@[simp] theorem q_convert {t u : TypeId} {x : Operand} : aqS P (.convert t u x) s h = aconv P t u (Slots.ev s x) := rfl
@[simp] theorem q_nilCheck {x : Operand} : aqS P (.nilCheck x) s h = anilCheck P (Slots.ev s x) := rfl
@[simp] theorem q_extract {x : Operand} {i : Nat} : aqS P (.extract x i) s h = aextract (Slots.ev s x) i := rfl
@[simp] theorem q_makeInterface {t : TypeId} {x : Operand} : aqS P (.makeInterface t x) s h = aiface P t (Slots.ev s x) := rfl
@[simp] theorem q_makeFunc {fn : Fn} {f c : List Operand} : aqS P (.makeFunc fn f.toArray c.toArray) s h = some (.func fn (f.map (Slots.ev s)) (c.map (Slots.ev s))) := rfl
@[simp] theorem q_fieldAddr {t : TypeId} {x : Operand} {f : Nat} : aqS P (.fieldAddr t x f) s h = afieldAt P t (Slots.ev s x) f := rfl
@[simp] theorem q_field {t : TypeId} {x : Operand} {f : Nat} : aqS P (.field t x f) s h = afield P t (Slots.ev s x) f := rfl
@[simp] theorem q_indexAddr {t : TypeId} {x i : Operand} : aqS P (.indexAddr t x i) s h = aidx P t (Slots.ev s x) (Slots.ev s i) := rfl
@[simp] theorem q_index {t : TypeId} {x i : Operand} : aqS P (.index t x i) s h = aindex P t (Slots.ev s x) (Slots.ev s i) := rfl
@[simp] theorem q_load {t : TypeId} {x : Operand} : aqS P (.load t x) s h = aloadRef P t (Slots.ev s x) := rfl
@[simp] theorem q_arr {t : TypeId} {x : Operand} : aqS P (.sliceToArrayPointer t x) s h = aarr P t (Slots.ev s x) := rfl
@[simp] theorem q_build {t : TypeId} {ps : List (Nat × Operand)} : aqS P (.build t ps.toArray) s h = abuild P t (ps.map fun p => (p.1, Slots.ev s p.2)) := rfl
@[simp] theorem q_len {t : TypeId} {x : Operand} : aqS P (.call ⟨.builtin .len, #[x], #[t]⟩) s h = alen P t (Slots.ev s x) := rfl
@[simp] theorem q_min {ts : Array TypeId} {x y : Operand} : aqS P (.call ⟨.builtin .min, #[x, y], ts⟩) s h = amin (Slots.ev s x) (Slots.ev s y) := rfl
@[simp] theorem q_max {ts : Array TypeId} {x y : Operand} : aqS P (.call ⟨.builtin .max, #[x, y], ts⟩) s h = amax (Slots.ev s x) (Slots.ev s y) := rfl
end
/-! Control. -/
theorem awp_cond_t {P : Program} {E : Env P} {c : Operand} {x y : Code} {Q : Post} {st : ASt} (hc : Slots.ev st.s c = .bool true) (h : AWP E x Q st) : AWP E (.cond c x y) Q st := awp_cond hc (fun _ => h) (fun e => by cases e)
theorem awp_cond_f {P : Program} {E : Env P} {c : Operand} {x y : Code} {Q : Post} {st : ASt} (hc : Slots.ev st.s c = .bool false) (h : AWP E y Q st) : AWP E (.cond c x y) Q st := awp_cond hc (fun e => by cases e) (fun _ => h)
theorem callable_of {f : FuncId} {fn : Func} (hf : P.funcs[f]? = some fn) (h : (decide (fn.name = "runtime.NumGoroutine") || fn.body.isNone) = false := by rfl) : callable P f := by
  simp only [Bool.or_eq_false_iff, decide_eq_false_iff_not] at h
  exact ⟨fn, hf, h.1, h.2⟩
@[simp] theorem then_normal {N : ASt → Prop} {Q : Post} {st : ASt} : Post.then N Q .normal st = N st := rfl
@[simp] theorem then_exit {N : ASt → Prop} {Q : Post} {i : Nat} {st : ASt} : Post.then N Q (.exit i) st = Q (.exit i) st := rfl
@[simp] theorem then_ret {N : ASt → Prop} {Q : Post} {st : ASt} : Post.then N Q .ret st = Q .ret st := rfl
@[simp] theorem block_normal {id : Nat} {Q : Post} {st : ASt} : Post.block id Q .normal st = Q .normal st := rfl
@[simp] theorem block_ret {id : Nat} {Q : Post} {st : ASt} : Post.block id Q .ret st = Q .ret st := rfl
@[simp] theorem block_exit {id i : Nat} {Q : Post} {st : ASt} : Post.block id Q (.exit i) st = if i = id then Q .normal st else Q (.exit i) st := rfl
@[simp] theorem scope_normal {Q : Post} {st : ASt} : Post.noGoto Q .normal st = Q .normal st := rfl
@[simp] theorem scope_ret {Q : Post} {st : ASt} : Post.noGoto Q .ret st = Q .ret st := rfl
@[simp] theorem scope_exit {i : Nat} {Q : Post} {st : ASt} : Post.noGoto Q (.exit i) st = Q (.exit i) st := rfl
@[simp] theorem params_nil {i : Nat} : params i [] = [] := rfl
@[simp] theorem params_cons {i : Nat} {x : AV} {l : List AV} : params i (x :: l) = (i, x) :: params (i + 1) l := rfl

/-! Values. -/
@[simp] theorem cells_agg {cs : List AV} : (AV.agg cs).cells = cs := rfl
@[simp] theorem cells_int {k : IntKind} {z : Int} : (AV.int k z).cells = [.int k z] := rfl
@[simp] theorem cells_bool {b : Bool} : (AV.bool b).cells = [.bool b] := rfl
@[simp] theorem cells_str {l : List UInt8} : (AV.str l).cells = [.str l] := rfl
@[simp] theorem cells_list {l : List AV} {t : Tok} : (AV.list l t).cells = [.list l t] := rfl
@[simp] theorem cells_ptr {i o : Nat} : (AV.ptr i o).cells = [.ptr i o] := rfl
@[simp] theorem cells_arr {i o n c : Nat} : (AV.arr i o n c).cells = [.arr i o n c] := rfl
@[simp] theorem cells_map {i : Nat} : (AV.map i).cells = [.map i] := rfl
@[simp] theorem cells_nilptr : AV.nilptr.cells = [.nilptr] := rfl
@[simp] theorem cells_nilmap : AV.nilmap.cells = [.nilmap] := rfl
@[simp] theorem cells_nilfunc : AV.nilfunc.cells = [.nilfunc] := rfl
@[simp] theorem cells_func {fn : Fn} {a b : List AV} : (AV.func fn a b).cells = [.func fn a b] := rfl
@[simp] theorem cells_iface {t : TypeId} {v : AV} : (AV.iface t v).cells = [.iface t v] := rfl
@[simp] theorem cells_niliface : AV.niliface.cells = [.niliface] := rfl
@[simp] theorem cells_b8 {b : UInt8} : (b8 b).cells = [b8 b] := rfl
attribute [simp] AV.known AV.one
@[simp] theorem uni_nil {k : Nat} : uni k [] = true := rfl
@[simp] theorem uni_cons {k : Nat} {x : AV} {l : List AV} : uni k (x :: l) = (x.cells.length == k && uni k l) := rfl
@[simp] theorem uni_app {k : Nat} {l m : List AV} : uni k (l ++ m) = (uni k l && uni k m) := by simp [uni]
@[simp] theorem uni_b8s {l : List UInt8} : uni 1 (l.map b8) = true := uni_b8 l
@[simp] theorem uni_rep {k m : Nat} {x : AV} (h : x.cells.length = k) : uni k (List.replicate m x) = true := by
  unfold uni; rw [List.all_eq_true]; intro y hy; rw [List.eq_of_mem_replicate hy]; simp [h]
@[simp] theorem ones_nil : ones [] = true := rfl
@[simp] theorem ones_cons {x : AV} {l : List AV} : ones (x :: l) = (x.one && ones l) := rfl
@[simp] theorem onesL_nil : onesL [] = true := rfl
@[simp] theorem onesL_cons {x : AV} {l : List AV} : onesL (x :: l) = (ones x.cells && onesL l) := rfl
@[simp] theorem onesL_app {l m : List AV} : onesL (l ++ m) = (onesL l && onesL m) := by simp [onesL]
@[simp] theorem onesL_b8s {l : List UInt8} : onesL (l.map b8) = true := by
  unfold onesL; rw [List.all_eq_true]; intro y hy
  obtain ⟨b, _, rfl⟩ := List.mem_map.1 hy
  rfl
@[simp] theorem ones_b8s {l : List UInt8} : ones (l.map b8) = true := by
  unfold ones; rw [List.all_eq_true]; intro y hy
  obtain ⟨b, _, rfl⟩ := List.mem_map.1 hy
  rfl
@[simp] theorem one_b8 {b : UInt8} : (b8 b).one = true := rfl
/-! '==' at values of known forms (the walk's simp has a discharger of its own, by which the equations of eqV don't go). -/
def eqI (d : Option TypeDesc) (b : Bool) : Option Bool :=
  match d with
  | some (.int _) => some b
  | _ => none
def eqS (d : Option TypeDesc) (b : Bool) : Option Bool :=
  match d with
  | some .string => some b
  | _ => none
def eqB (d : Option TypeDesc) (b : Bool) : Option Bool :=
  match d with
  | some .bool => some b
  | _ => none
def eqG (P : Program) (d : Option TypeDesc) (t : TypeId) (n : Nat) (xs ys : List AV) : Option Bool :=
  match d with
  | some (.struct fs) => if P.stoodInHeld t then none else eqFs P n fs.toList xs ys
  | _ => none
@[simp] theorem eqI_int {k : IntKind} {b : Bool} : eqI (some (.int k)) b = some b := rfl
@[simp] theorem eqS_str {b : Bool} : eqS (some .string) b = some b := rfl
@[simp] theorem eqB_bool {b : Bool} : eqB (some .bool) b = some b := rfl
@[simp] theorem eqG_struct {P : Program} {fs : Array Field} {t : TypeId} {n : Nat} {xs ys : List AV} : eqG P (some (.struct fs)) t n xs ys = if P.stoodInHeld t then none else eqFs P n fs.toList xs ys := rfl
@[simp] theorem eqV_int {P : Program} {d : Nat} {t : TypeId} {k : IntKind} {a b : Int} : eqV P (d + 1) t (.int k a) (.int k b) = eqI (P.underlying t) (a == b) := by
  unfold eqV eqI
  cases P.underlying t with
  | none => rfl
  | some d => cases d <;> simp
@[simp] theorem eqV_str {P : Program} {d : Nat} {t : TypeId} {a b : List UInt8} : eqV P (d + 1) t (.str a) (.str b) = eqS (P.underlying t) (a == b) := by
  unfold eqV eqS
  cases P.underlying t with
  | none => rfl
  | some d => cases d <;> simp
@[simp] theorem eqV_bool {P : Program} {d : Nat} {t : TypeId} {a b : Bool} : eqV P (d + 1) t (.bool a) (.bool b) = eqB (P.underlying t) (a == b) := by
  unfold eqV eqB
  cases P.underlying t with
  | none => rfl
  | some d => cases d <;> simp
@[simp] theorem eqV_agg {P : Program} {d : Nat} {t : TypeId} {xs ys : List AV} : eqV P (d + 1) t (.agg xs) (.agg ys) = eqG P (P.underlying t) t d xs ys := by
  unfold eqV eqG
  cases P.underlying t with
  | none => rfl
  | some d => cases d <;> simp
def andO (x y : Option Bool) : Option Bool :=
  match x, y with
  | some r, some r' => some (r && r')
  | _, _ => none
@[simp] theorem andO_some {a b : Bool} : andO (some a) (some b) = some (a && b) := rfl
@[simp] theorem eqFs_nil {P : Program} {d : Nat} {xs ys : List AV} : eqFs P d [] xs ys = some true := by rw [eqFs]
def eqF (P : Program) (d : Nat) (f : Field) (x y : Option AV) : Option Bool :=
  match x, y with
  | some a, some b => eqV P d f.type a b
  | _, _ => none
@[simp] theorem eqF_some {P : Program} {d : Nat} {f : Field} {a b : AV} : eqF P d f (some a) (some b) = eqV P d f.type a b := rfl
@[simp] theorem eqFs_cons {P : Program} {d : Nat} {f : Field} {fs : List Field} {xs ys : List AV} : eqFs P d (f :: fs) xs ys = if f.name = "_" then none else andO (eqF P d f (partA P f.type xs f.offset) (partA P f.type ys f.offset)) (eqFs P d fs xs ys) := by
  rw [eqFs]
  split
  · rfl
  · cases partA P f.type xs f.offset <;> cases partA P f.type ys f.offset <;> first | rfl | (simp only [eqF, andO]; cases eqFs P d fs xs ys <;> rfl) | (simp only [eqF]; generalize eqV P d f.type _ _ = a; generalize eqFs P d fs xs ys = b; cases a <;> cases b <;> rfl)
attribute [simp] methFn aassert sameNum aint ashift astr abin nilT TypeDesc.isPtr TypeDesc.isMap TypeDesc.isFunc TypeDesc.isBool partA aidx afieldAt afield aindex aloadRef abd abdLo abdHi aslice bytesOf_map aconv aun anilCheck aextract over afill abuild alen amin amax aarr aiface apick ahNew ahLoad ahStore ahBytes zeroCells ahBuildSlice newsA ahAppend ahMake ahSliceArr aload aconvH asliceH asliceQ aresult aresultsL aresults
@[simp] theorem chunk_one {m : Nat} {l : List AV} (hl : l.length = m) : chunk false 1 m l = l := by
  induction m generalizing l with
  | zero => simp [chunk, List.eq_nil_of_length_eq_zero hl]
  | succ m ih => cases l with
    | nil => simp at hl
    | cons x l => simp only [chunk, List.headD_cons, Bool.false_eq_true, if_false, List.drop_succ_cons, List.drop_zero]; rw [ih (by simpa using hl)]
@[simp] theorem chunk_zero {b : Bool} {k : Nat} {l : List AV} : chunk b k 0 l = [] := rfl
@[simp] theorem chunk_agg {k m : Nat} {l : List AV} : chunk true k (m + 1) l = .agg (l.take k) :: chunk true k m (l.drop k) := rfl
@[simp] theorem bytesOf_nil : bytesOf [] = some [] := rfl

/-! Tokens. -/
@[simp] theorem s_int {k : IntKind} {z : Int} : (AV.int k z).strip = .int k z := by simp only [AV.strip]
@[simp] theorem s_bool {b : Bool} : (AV.bool b).strip = .bool b := by simp only [AV.strip]
@[simp] theorem s_str {l : List UInt8} : (AV.str l).strip = .str l := by simp only [AV.strip]
@[simp] theorem s_undef : AV.undef.strip = .undef := by simp only [AV.strip]
@[simp] theorem s_nilptr : AV.nilptr.strip = .nilptr := by simp only [AV.strip]
@[simp] theorem s_nilmap : AV.nilmap.strip = .nilmap := by simp only [AV.strip]
@[simp] theorem s_nilfunc : AV.nilfunc.strip = .nilfunc := by simp only [AV.strip]
@[simp] theorem s_niliface : AV.niliface.strip = .niliface := by simp only [AV.strip]
@[simp] theorem s_arr {i o n c : Nat} : (AV.arr i o n c).strip = .arr i o n c := by simp only [AV.strip]
@[simp] theorem s_ptr {i o : Nat} : (AV.ptr i o).strip = .ptr i o := by simp only [AV.strip]
@[simp] theorem s_map {i : Nat} : (AV.map i).strip = .map i := by simp only [AV.strip]
@[simp] theorem s_b8 {b : UInt8} : (b8 b).strip = b8 b := s_int
attribute [simp] strip_list strip_agg strip_tuple strip_ref strip_func strip_iface
/-- Values without tokens. -/
def Plain {α : Type} (f : α → AV) : Prop := ∀ x, (f x).strip = f x
@[simp] theorem s_maps {α : Type} {f : α → AV} {l : List α} (h : ∀ x, (f x).strip = f x) : (l.map f).map AV.strip = l.map f := by
  rw [List.map_map]; exact List.map_congr_left fun x _ => h x
@[simp] theorem s_b8s {l : List UInt8} : (l.map b8).map AV.strip = l.map b8 := s_maps fun _ => s_b8
theorem s_comp {α : Type} {f : α → AV} (h : ∀ x, (f x).strip = f x) : AV.strip ∘ f = f := funext h
@[simp] theorem s_compb8 : AV.strip ∘ b8 = b8 := s_comp fun _ => s_b8

/-! No objects in it. -/
attribute [simp] Bel.undef Bel.bool Bel.int Bel.str Bel.nilptr Bel.nilmap Bel.nilfunc Bel.niliface
@[simp] theorem bel_b8 {m : Nat} {b : UInt8} : Bel m (b8 b) := .int _ _
theorem bel_all {m : Nat} {cs : List AV} (h : ∀ x ∈ cs, Bel m x) : ∀ i (p : i < cs.length), Bel m cs[i] := fun i p => h _ (List.getElem_mem p)
@[simp] theorem bel_agg {m : Nat} {cs : List AV} : Bel m (.agg cs) ↔ ∀ x ∈ cs, Bel m x :=
  ⟨fun h x hx => by cases h with | agg _ hh => obtain ⟨i, p, rfl⟩ := List.getElem_of_mem hx; exact hh i p, fun h => .agg _ (bel_all h)⟩
@[simp] theorem bel_tuple {m : Nat} {cs : List AV} : Bel m (.tuple cs) ↔ ∀ x ∈ cs, Bel m x :=
  ⟨fun h x hx => by cases h with | tuple _ hh => obtain ⟨i, p, rfl⟩ := List.getElem_of_mem hx; exact hh i p, fun h => .tuple _ (bel_all h)⟩
def BelL (m : Nat) (xs : List AV) : Prop := ∀ x ∈ xs, Bel m x
theorem Bel.cells {m : Nat} {x : AV} (h : Bel m x) : ∀ c ∈ x.cells, Bel m c := fun c hc => by
  cases h with
  | agg cs hh => obtain ⟨i, p, rfl⟩ := List.getElem_of_mem hc; exact hh i p
  | _ => simp only [AV.cells, List.mem_singleton] at hc; subst hc; constructor <;> assumption
@[simp] theorem bel_list {m : Nat} {xs : List AV} (h : BelL m xs) : Bel m (.list xs .no) :=
  .list _ _ (fun id e => by cases e) (fun j p i q => (h _ (List.getElem_mem p)).cells _ (List.getElem_mem q))
@[simp] theorem belL_nil {m : Nat} : BelL m [] := fun x h => by simp at h
@[simp] theorem belL_cons {m : Nat} {x : AV} {l : List AV} : BelL m (x :: l) ↔ Bel m x ∧ BelL m l := by simp [BelL]
@[simp] theorem belL_app {m : Nat} {k l : List AV} : BelL m (k ++ l) ↔ BelL m k ∧ BelL m l := by
  unfold BelL; simp only [List.mem_append]; exact ⟨fun h => ⟨fun x hx => h x (.inl hx), fun x hx => h x (.inr hx)⟩, fun h x hx => hx.elim (h.1 x) (h.2 x)⟩
@[simp] theorem belL_map {α : Type} {m : Nat} {f : α → AV} {l : List α} (h : ∀ x, Bel m (f x)) : BelL m (l.map f) := fun x hx => by
  obtain ⟨y, _, rfl⟩ := List.mem_map.1 hx; exact h y
@[simp] theorem belL_take {m k : Nat} {l : List AV} (h : BelL m l) : BelL m (l.take k) := fun x hx => h x (List.mem_of_mem_take hx)
@[simp] theorem belL_drop {m k : Nat} {l : List AV} (h : BelL m l) : BelL m (l.drop k) := fun x hx => h x (List.mem_of_mem_drop hx)
@[simp] theorem bel_iface {m : Nat} {t : TypeId} {v : AV} : Bel m (.iface t v) ↔ Bel m v := ⟨fun h => by cases h with | iface _ _ hh => exact hh, fun h => .iface _ _ h⟩
attribute [simp] IntKind.bits IntKind.wrap_u8 IntKind.wrap_u32
theorem tmod_pos {x y : Int} (h : 0 ≤ x) : x.tmod y = x % y := Int.tmod_eq_emod_of_nonneg h
theorem tdiv_pos {x y : Int} (h : 0 ≤ x) : x.tdiv y = x / y := Int.tdiv_eq_ediv_of_nonneg h
theorem wrap_i64 {z : Int} (h0 : -9223372036854775808 ≤ z) (h1 : z ≤ 9223372036854775807) : IntKind.i64.wrap z = z := by rw [IntKind.wrap_i64]; omega
@[simp] theorem tn_nn {a b : Nat} : ((a : Int) + (b : Int)).toNat = a + b := by omega
@[simp] theorem tn_n1 {b : Nat} : ((b : Int) + 1).toNat = b + 1 := by omega
@[simp] theorem tn_1n {b : Nat} : (1 + (b : Int)).toNat = 1 + b := by omega
attribute [simp] uni_take uni_drop
@[simp] theorem onesL_take {m : Nat} {l : List AV} (h : onesL l = true) : onesL (l.take m) = true := by
  unfold onesL at h ⊢; rw [List.all_eq_true] at h ⊢; exact fun x hx => h x (List.mem_of_mem_take hx)
@[simp] theorem onesL_drop {m : Nat} {l : List AV} (h : onesL l = true) : onesL (l.drop m) = true := by
  unfold onesL at h ⊢; rw [List.all_eq_true] at h ⊢; exact fun x hx => h x (List.mem_of_mem_drop hx)
@[simp] theorem flat_b8 {l : List UInt8} : (l.map b8).flatMap AV.cells = l.map b8 := by
  induction l with
  | nil => rfl
  | cons x l ih => simp [ih]
@[simp] theorem flat_b8' {l : List UInt8} : l.flatMap (fun x => [b8 x]) = l.map b8 := by
  induction l with
  | nil => rfl
  | cons x l ih => simp [ih]
theorem bytes_td {l : List UInt8} {a b : Nat} : bytesOf (((l.map b8).drop a).take b) = some ((l.drop a).take b) := by
  rw [← List.map_drop, ← List.map_take]; exact bytesOf_map _
@[simp] theorem bytes_t {l : List UInt8} {a : Nat} : bytesOf ((l.map b8).take a) = some (l.take a) := by
  rw [← List.map_take]; exact bytesOf_map _
@[simp] theorem bytes_d {l : List UInt8} {a : Nat} : bytesOf ((l.map b8).drop a) = some (l.drop a) := by
  rw [← List.map_drop]; exact bytesOf_map _
attribute [simp] bytes_td
theorem take_map {α β : Type} {f : α → β} {l : List α} {k : Nat} : (l.map f).take k = (l.take k).map f := List.map_take.symm
theorem drop_map {α β : Type} {f : α → β} {l : List α} {k : Nat} : (l.map f).drop k = (l.drop k).map f := List.map_drop.symm
@[simp] theorem u_list {xs : List AV} {t : Tok} : (AV.list xs t).untok = .list xs .no := rfl
@[simp] theorem u_agg {cs : List AV} : (AV.agg cs).untok = .agg (cs.map AV.untok1) := rfl
@[simp] theorem u_int {k : IntKind} {z : Int} : (AV.int k z).untok = .int k z := rfl
@[simp] theorem u_bool {b : Bool} : (AV.bool b).untok = .bool b := rfl
@[simp] theorem u_str {l : List UInt8} : (AV.str l).untok = .str l := rfl
@[simp] theorem u_ptr {i o : Nat} : (AV.ptr i o).untok = .ptr i o := rfl
@[simp] theorem u_map {i : Nat} : (AV.map i).untok = .map i := rfl
@[simp] theorem u_nilptr : AV.nilptr.untok = .nilptr := rfl
@[simp] theorem u_nilmap : AV.nilmap.untok = .nilmap := rfl
@[simp] theorem u_nilfunc : AV.nilfunc.untok = .nilfunc := rfl
@[simp] theorem u_niliface : AV.niliface.untok = .niliface := rfl
@[simp] theorem u_func {fn : Fn} {a b : List AV} : (AV.func fn a b).untok = .func fn a b := rfl
@[simp] theorem u_iface {t : TypeId} {v : AV} : (AV.iface t v).untok = .iface t v := rfl
@[simp] theorem u_b8 {z : UInt8} : (b8 z).untok = b8 z := rfl
@[simp] theorem u1_full : (AV.list [] .full).untok1 = .list [] .full := rfl
@[simp] theorem u1_no {xs : List AV} : (AV.list xs .no).untok1 = .list xs .no := by cases xs <;> rfl
@[simp] theorem u1_own {xs : List AV} {i : Nat} : (AV.list xs (.own i)).untok1 = .list xs .no := by cases xs <;> rfl
@[simp] theorem u1_cons {x : AV} {xs : List AV} {t : Tok} : (AV.list (x :: xs) t).untok1 = .list (x :: xs) .no := rfl
@[simp] theorem u1_int {k : IntKind} {z : Int} : (AV.int k z).untok1 = .int k z := rfl
@[simp] theorem u1_bool {b : Bool} : (AV.bool b).untok1 = .bool b := rfl
@[simp] theorem u1_str {l : List UInt8} : (AV.str l).untok1 = .str l := rfl
@[simp] theorem u1_ptr {i o : Nat} : (AV.ptr i o).untok1 = .ptr i o := rfl
@[simp] theorem u1_map {i : Nat} : (AV.map i).untok1 = .map i := rfl
@[simp] theorem u1_nilptr : AV.nilptr.untok1 = .nilptr := rfl
@[simp] theorem u1_nilmap : AV.nilmap.untok1 = .nilmap := rfl
@[simp] theorem u1_nilfunc : AV.nilfunc.untok1 = .nilfunc := rfl
@[simp] theorem u1_niliface : AV.niliface.untok1 = .niliface := rfl
@[simp] theorem u1_func {fn : Fn} {a b : List AV} : (AV.func fn a b).untok1 = .func fn a b := rfl
@[simp] theorem u1_iface {t : TypeId} {v : AV} : (AV.iface t v).untok1 = .iface t v := rfl
@[simp] theorem u1_b8 {z : UInt8} : (b8 z).untok1 = b8 z := rfl
end
set_option allowUnsafeReducibility true in
attribute [irreducible] ARun ATree Goes GoesT runOps runTree contG contT contQ stepV
universe u
/-- What the walk's simp is always handed, in one. -/
theorem vz : (∀ {c : Prop} {h : Decidable c}, c → ∀ {α : Sort u} {t e : α}, @ite α c h t e = t) ∧ (∀ {c : Prop} {h : Decidable c}, ¬ c → ∀ {α : Sort u} {t e : α}, @ite α c h t e = e) ∧ (∀ {z : Int}, -9223372036854775808 ≤ z → z ≤ 9223372036854775807 → IntKind.i64.wrap z = z) ∧
    (∀ {x y : Int}, 0 ≤ x → x.tmod y = x % y) ∧ (∀ {x y : Int}, 0 ≤ x → x.tdiv y = x / y) ∧ (∀ {a b : Int}, 0 ≤ a → 0 ≤ b → (a + b).toNat = a.toNat + b.toNat) :=
  ⟨if_pos, if_neg, wrap_i64, tmod_pos, tdiv_pos, Int.toNat_add⟩
theorem vq : (∀ {N : ASt → Prop} {Q : Post} {st : ASt}, Post.then N Q .normal st = N st) ∧ (∀ {N : ASt → Prop} {Q : Post} {i : Nat} {st : ASt}, Post.then N Q (.exit i) st = Q (.exit i) st) ∧ (∀ {N : ASt → Prop} {Q : Post} {st : ASt}, Post.then N Q .ret st = Q .ret st) ∧
    (∀ {id : Nat} {Q : Post} {st : ASt}, Post.block id Q .normal st = Q .normal st) ∧ (∀ {id : Nat} {Q : Post} {st : ASt}, Post.block id Q .ret st = Q .ret st) ∧ (∀ {id i : Nat} {Q : Post} {st : ASt}, Post.block id Q (.exit i) st = if i = id then Q .normal st else Q (.exit i) st) ∧
    (∀ {Q : Post} {st : ASt}, Post.noGoto Q .normal st = Q .normal st) ∧ (∀ {Q : Post} {st : ASt}, Post.noGoto Q .ret st = Q .ret st) ∧ (∀ {i : Nat} {Q : Post} {st : ASt}, Post.noGoto Q (.exit i) st = Q (.exit i) st) :=
  ⟨rfl, rfl, rfl, rfl, rfl, rfl, rfl, rfl, rfl⟩
/-! Short names, with what is tried by itself: what the texts' words come to. -/
section
variable {P : Program} {E : Env P} {ops : Array Oper} {n : Nat} {K : Slots → AHeap → Prop} {Q : Post} {st : ASt}
theorem zd {s : Slots} {h : AHeap} (k : K s h) : Goes E ops n K (.done s h) := goes_done k
theorem zx {id : Nat} (h : Q (.exit id) st) : AWP E (.exit id) Q st := awp_exit h
theorem zk (h : Q .normal st) : AWP E .skip Q st := awp_skip h
theorem zl {l : Nat} (h : Q .normal st) : AWP E (.label l) Q st := awp_label h
theorem zr (h : Q .ret st) : AWP E .ret Q st := awp_ret h
theorem zs {x y : Code} (h : AWP E x (Post.then (AWP E y Q) Q) st) : AWP E (.seq x y) Q st := awp_seq h
theorem zb {id : Nat} {c : Code} (h : AWP E c (Post.block id Q) st) : AWP E (.block id c) Q st := awp_block h
theorem zo {c : Code} (h : AWP (E0 P) c (Post.noGoto Q) st) : AWP (E0 P) (.scope c) Q st := awp_scope h
theorem zt {c : Operand} {x y : Code} (h : AWP E x Q st) (hc : Slots.ev st.s c = .bool true := by rfl) : AWP E (.cond c x y) Q st := awp_cond_t hc h
theorem zf {c : Operand} {x y : Code} (h : AWP E y Q st) (hc : Slots.ev st.s c = .bool false := by rfl) : AWP E (.cond c x y) Q st := awp_cond_f hc h
theorem zg {id : Nat} {l : List Oper} {s : Slots} {h : AHeap} {r : Res} (k : Goes E l.toArray n (fun s h => Q .normal ⟨n, s, h⟩) r) (e : runOps P l.toArray n l s h = r := by simp -implicitDefEqProofs (disch := (first | omega | (simp; done) | fail)) [if_pos, if_neg, wrap_i64, tmod_pos, tdiv_pos, Int.toNat_add]; rfl) : AWP E (.region id l.toArray false) Q ⟨n, s, h⟩ := awp_region' (run_start (goes_eq e k))
theorem zh {id : Nat} {l : List Oper} {s : Slots} {h : AHeap} {r : Res} (e : runOps P l.toArray n l s h = r) (k : Goes E l.toArray n (fun s h => Q .normal ⟨n, s, h⟩) r) : AWP E (.region id l.toArray false) Q ⟨n, s, h⟩ := awp_region' (run_start (goes_eq e k))
theorem zn {l : List Oper} {s : Slots} {h : AHeap} {r : Res} (k : Goes E ops n K r) (e : runOps P ops n l s h = r := by simp -implicitDefEqProofs (disch := (first | omega | (simp; done) | fail)) [if_pos, if_neg, wrap_i64, tmod_pos, tdiv_pos, Int.toNat_add]; rfl) : ARun E ops n l s h K := run_start (goes_eq e k)
theorem ze {r r' : Res} (k : Goes E ops n K r') (e : r = r' := by simp -implicitDefEqProofs (disch := (first | omega | (simp; done) | fail)) [if_pos, if_neg, wrap_i64, tmod_pos, tdiv_pos, Int.toNat_add]; rfl) : Goes E ops n K r := goes_eq e k
theorem zE {r r' : ResT} (k : GoesT P ops n K r') (e : r = r' := by simp -implicitDefEqProofs (disch := (first | omega | (simp; done) | fail)) [if_pos, if_neg, wrap_i64, tmod_pos, tdiv_pos, Int.toNat_add]; rfl) : GoesT P ops n K r := goesT_eq e k
theorem zp {f : FuncId} {xs ys : List AV} {d : Option Nat} {l : List Oper} {s : Slots} {h : AHeap} (hf : callable P f) (R : AV → AHeap → Prop) (c : ACalls P f ys h R) (k : ∀ x h', R x h' → Goes E ops n K (runOps P ops n l (Slots.put n s d x) h')) (hy : xs.map AV.strip = ys := by simp -implicitDefEqProofs (disch := (first | omega | (simp; done) | fail)) [if_pos, if_neg, wrap_i64, tmod_pos, tdiv_pos, Int.toNat_add] <;> first | rfl | omega) :
    Goes E ops n K (.call f xs d l s h) := goes_callS hf hy R c k
theorem zP {f : FuncId} {xs ys : List AV} {d : Option Nat} {t : Reg.Tree} {s : Slots} {h : AHeap} (hf : callable P f) (R : AV → AHeap → Prop) (c : ACalls P f ys h R) (k : ∀ x h', R x h' → GoesT P ops n K (runTree P ops n t (Slots.put n s d x) h')) (hy : xs.map AV.strip = ys := by simp -implicitDefEqProofs (disch := (first | omega | (simp; done) | fail)) [if_pos, if_neg, wrap_i64, tmod_pos, tdiv_pos, Int.toNat_add] <;> first | rfl | omega) :
    GoesT P ops n K (.call f xs d t s h) := goesT_callS hf hy R c k
theorem zy {rs : Array ResultVar} {h0 : AHeap} {R : AV → AHeap → Prop} {e : Exit} {n : Nat} {s : Slots} {k : AHeap} {x y : AV} (he : e = .normal ∨ e = .ret) (hR : R x h0) (hx : aresults P rs s (h0 ++ k) = some y := by simp -implicitDefEqProofs; rfl) (hy : y.strip = x := by simp -implicitDefEqProofs; rfl) (hb : Bel h0.length x := by simp) :
    BodyPost P rs h0 R e ⟨n, s, h0 ++ k⟩ := body_pure he hx hy hb hR
theorem zY {rs : Array ResultVar} {h0 : AHeap} {R : AV → AHeap → Prop} {e : Exit} {n : Nat} {s : Slots} {x y : AV} (he : e = .normal ∨ e = .ret) (hR : R x h0) (hx : aresults P rs s h0 = some y := by simp -implicitDefEqProofs; rfl) (hy : y.strip = x := by simp -implicitDefEqProofs; rfl) (hb : Bel h0.length x := by simp) :
    BodyPost P rs h0 R e ⟨n, s, h0⟩ := body_pure0 he hx hy hb hR
theorem zq {p q : Prop} (k : q) (e : p = q := by first | (simp only [vq, if_true, reduceIte, Nat.reduceEqDiff, reduceCtorEq]; done) | (simp only [vq, if_true, reduceIte, Nat.reduceEqDiff, reduceCtorEq]; rfl) | rfl) : p := by rw [e]; exact k
end
end Go.Proofs.Ytajgeofhlgoifaa.V
