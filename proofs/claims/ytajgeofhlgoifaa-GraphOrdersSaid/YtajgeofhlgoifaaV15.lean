/- All operations; calls; regions, those too that draw their order. No program is named here. -/
import Derived.Test.YtajgeofhlgoifaaV14
set_option linter.unusedVariables false
set_option linter.unusedSimpArgs false
namespace Go.Proofs.Ytajgeofhlgoifaa.V
open Go Go.RowKit

/-- Tokens of what goes into a list are forgotten. -/
def AV.untok1 : AV → AV
  | .list [] .full => .list [] .full
  | .list xs _ => .list xs .no
  | v => v
def AV.untok : AV → AV
  | .agg cs => .agg (cs.map AV.untok1)
  | .list xs _ => .list xs .no
  | v => v
theorem VRel.notok {g : Ghost} {xs : List AV} {t : Tok} {v : Value} (h : VRel g (.list xs t) v) : VRel g (.list xs .no) v := by
  cases h with | list _ _ a c k b o u hc hm hn hk ha h1 h2 ht => exact .list xs .no a c k b o u hc hm hn hk ha h1 h2 trivial
theorem VRel.untok1 {g : Ghost} {x : AV} {v : Value} (h : VRel g x v) : VRel g x.untok1 v := by
  cases x with
  | list xs t => cases xs with
    | nil => cases t with
      | full => exact h
      | _ => exact VRel.notok h
    | cons y r => exact VRel.notok h
  | _ => exact h
theorem VRel.untok {g : Ghost} {x : AV} {v : Value} (h : VRel g x v) : VRel g x.untok v := by
  cases x with
  | agg cs => cases h with | agg _ vs hl hh => exact .agg _ vs (by simpa using hl) (fun i p q => by simpa using (hh i (by simpa using p) q).untok1)
  | list xs t => exact VRel.notok h
  | _ => exact h

def aload (P : Program) (t : TypeId) (x : AV) (h : AHeap) : Option (AV × AHeap) :=
  match x with
  | .ref cs off => (partA P t cs off).map fun y => (y, h)
  | x => ahLoad P t x h
def aconvH (P : Program) (src dst : TypeId) (x : AV) (h : AHeap) : Option (AV × AHeap) :=
  match aconv P src dst x with
  | some y => some (y, h)
  | none => ahBytes P src dst x h
def asliceH (P : Program) (t : TypeId) (x : AV) (lo hi mx : Option Operand) (s : Slots) (h : AHeap) : Option (AV × AHeap) :=
  match x with
  | .ptr id off => ahSliceArr P t (.ptr id off) lo hi mx h
  | x => (aslice P t x (lo.map (Slots.ev s)) (hi.map (Slots.ev s)) (mx.map (Slots.ev s))).map fun y => (y, h)
def acallH (P : Program) (c : Call) (s : Slots) (h : AHeap) : Option (AV × AHeap) :=
  match c.callee, c.argTypes.toList, c.args.toList with
  | .builtin .append, [t, t2], [x, y] => ahAppend P t t2 (Slots.ev s x) (Slots.ev s y) h
  | _, _, _ => (acallQ P c s).map fun y => (y, h)
/-- Is an interface's value of a type that is none? -/
def aassert (P : Program) (asserted : TypeId) (x : AV) : Option AV :=
  match P.underlying asserted, x with
  | some (.interface _), _ => none
  | some _, .iface t v => if t = asserted then some (.tuple [v, .bool true]) else (zeroA P asserted).map fun z => .tuple [z, .bool false]
  | _, _ => none
theorem zeroA_run {P : Program} {g : Ghost} {t : TypeId} {z : AV} (h : zeroA P t = some z) : ∃ v, VRel g z v ∧ ∀ w, (zeroValue t).run P w = .ok v w := by
  unfold zeroA at h
  cases hi : P.info? t with
  | none => rw [hi] at h; cases h
  | some i =>
    rw [hi] at h
    cases hz : i.zero with
    | none => simp [hz] at h
    | some v =>
      simp [hz] at h
      subst h
      exact ⟨v, VRel.ofConst g v, fun w => by simp [zeroValue, typeInfo, hi, hz]⟩
theorem tuple_two {g : Ghost} {x y : AV} {v u : Value} (h : VRel g x v) (k : VRel g y u) : VRel g (.tuple [x, y]) (.tuple #[v, u]) :=
  .tuple _ _ rfl fun i h1 h2 => by
    match i with
    | 0 => exact h
    | 1 => exact k
    | n + 2 => simp at h1; omega
theorem aassert_sound {P : Program} {g : Ghost} {asserted xT : TypeId} {x z : AV} (h : aassert P asserted x = some z) {vx : Value} (hx : VRel g x vx) : Yield P g z (Instr.typeAssert vx xT asserted true) := by
  unfold aassert at h
  split at h
  · cases h
  · rename_i d t v hd hu
    have hni : ∀ ms, P.underlying asserted ≠ some (.interface ms) := fun ms e => by rw [hu] at e; injection e with e; exact hd ms e
    cases hx with
    | iface _ _ u hv =>
      split at h
      · rename_i he
        injection h with h; subst h; subst he
        refine ⟨.tuple #[u, .bool true], tuple_two hv (.bool _), fun w _ => ?_⟩
        cases d <;> first | exact absurd hu (hni _) | simp [Instr.typeAssert, run_underlying hu]
      · rename_i he
        cases hz : zeroA P asserted with
        | none => rw [hz] at h; cases h
        | some z0 =>
          rw [hz] at h
          injection h with h; subst h
          obtain ⟨vz, hvz, hrz⟩ := zeroA_run (P := P) (g := g) hz
          refine ⟨.tuple #[vz, .bool false], tuple_two hvz (.bool _), fun w _ => ?_⟩
          cases d <;> first | exact absurd hu (hni _) | simp [Instr.typeAssert, run_underlying hu, he, hrz]
  · cases h
def aop (P : Program) (op : Op) (s : Slots) (h : AHeap) : Option (AV × AHeap) :=
  match op with
  | .alloc t => match zeroA P t with
    | some z => ahNew z h
    | none => none
  | .box _ x => ahNew (Slots.ev s x) h
  | .load t x => aload P t (Slots.ev s x) h
  | .store t x y => ahStore P t (Slots.ev s x) (Slots.ev s y) h
  | .convert src dst x => aconvH P src dst (Slots.ev s x) h
  | .buildSlice t len parts => ahBuildSlice P t len (parts.toList.map fun p => (p.1, (Slots.ev s p.2).untok)) h
  | .makeSlice t l c => ahMake P t (Slots.ev s l) (Slots.ev s c) h
  | .slice t x lo hi mx => asliceH P t (Slots.ev s x) lo hi mx s h
  | .call c => acallH P c s h
  | .typeAssert x _ asserted true => (aassert P asserted (Slots.ev s x)).map fun y => (y, h)
  | op => (aq P op s).map fun y => (y, h)

section
variable {P : Program}
theorem aop_of_gives {o : Oper} {st : ASt} {x : AV} {h' : AHeap} {K : AV → AHeap → Prop} {s : Act → Sem Value} (hex : ∀ a : Act, execOp a.eval o = (do let r ← s a; pure (Next.value r) : Sem Next))
    (hg : ∀ w0 g w a, StRel g st a → Sim w0 g st.h w → Gives P w0 g w x h' (s a)) (hk : K x h') : AOp P o st K := by
  intro w0 g w a r S next Q hn
  obtain ⟨v, w', g', hr, l, hv, S'⟩ := hg w0 g w a r S
  unfold Oper.wp
  rw [hex a, Sem.run_bind, hr]
  exact hn v w' g' x h' l hv S' hk
theorem aop_of_quiet {o : Oper} {st : ASt} {x : AV} {K : AV → AHeap → Prop} (hq : AQuiet P o st x) (hk : K x st.h) : AOp P o st K := by
  intro w0 g w a r S next Q hn
  obtain ⟨v, hv, hr⟩ := hq g a r
  unfold Oper.wp
  rw [hr w S.agree]
  exact hn v w g x st.h (.refl g) hv S hk
theorem aop_sound {o : Oper} {st : ASt} {x : AV} {h' : AHeap} {K : AV → AHeap → Prop} (e : aop P o.op st.s st.h = some (x, h')) (hk : K x h') : AOp P o st K := by
  have quiet : ((aq P o.op st.s).map fun y => (y, st.h)) = some (x, h') → AOp P o st K := fun e => by
    cases hq : aq P o.op st.s with
    | none => rw [hq] at e; cases e
    | some y =>
      rw [hq] at e
      simp only [Option.map_some, Option.some.injEq, Prod.mk.injEq] at e
      obtain ⟨rfl, rfl⟩ := e
      exact aop_of_quiet (aq_sound hq) hk
  cases ho : o.op <;> (rw [ho] at e; try (simp only [aop] at e))
  case typeAssert y xT asserted ok =>
    cases ok with
    | false => exact quiet (by rw [ho]; exact e)
    | true =>
      simp only [aop] at e
      cases ha : aassert P asserted (Slots.ev st.s y) with
      | none => rw [ha] at e; cases e
      | some z =>
        rw [ha] at e
        simp only [Option.map_some, Option.some.injEq, Prod.mk.injEq] at e
        obtain ⟨rfl, rfl⟩ := e
        exact aop_of_gives (s := fun a => Instr.typeAssert (a.eval y) xT asserted true) (fun a => by simp [execOp, ho]) (fun w0 g w a r S => Gives.of_yield S (aassert_sound ha (r.ev y))) hk
  case alloc t =>
    cases hz : zeroA P t with
    | none => rw [hz] at e; cases e
    | some z =>
      rw [hz] at e
      exact aop_of_gives (s := fun _ => Instr.alloc t true (.tuple #[])) (fun a => by simp [execOp, ho]) (fun w0 g w a r S => ahNew_alloc S hz e _) hk
  case box t y => exact aop_of_gives (s := fun a => Instr.box t (a.eval y)) (fun a => by simp [execOp, ho]) (fun w0 g w a r S => ahNew_box S e t (r.ev y)) hk
  case load t y =>
    unfold aload at e
    split at e
    · rename_i cs off hy
      refine quiet ?_
      rw [ho]
      simp only [aq, hy, aloadRef]
      exact e
    · exact aop_of_gives (s := fun a => Instr.loadAt t (a.eval y)) (fun a => by simp [execOp, ho]) (fun w0 g w a r S => ahLoad_sound S e (r.ev y)) hk
  case store t y z =>
    intro w0 g w a r S next Q hn
    obtain ⟨w', hr, rfl, S'⟩ := ahStore_sound S e (r.ev y) (r.ev z)
    unfold Oper.wp execOp
    simp only [ho, Sem.run_bind, hr, Result.andThen_ok, Sem.run_pure]
    exact hn Go.undef w' g .undef h' (.refl g) (.undef _) S' hk
  case convert src dst y =>
    unfold aconvH at e
    split at e
    · rename_i z hz
      refine quiet ?_
      rw [ho]
      simp only [aq, hz, Option.map_some]
      exact e
    · exact aop_of_gives (s := fun a => convert src dst (a.eval y)) (fun a => by simp [execOp, ho]) (fun w0 g w a r S => ahBytes_sound S e (r.ev y)) hk
  case buildSlice t len parts =>
    exact aop_of_gives (s := fun a => Instr.buildSlice t len (parts.map fun (i, x) => (i, a.eval x))) (fun a => by simp [execOp, ho]) (fun w0 g w a r S => ahBuildSlice_sound S e (by simp) (fun i h h' => by simp; exact (r.ev _).untok)) hk
  case makeSlice t l c => exact aop_of_gives (s := fun a => Instr.makeSlice t (a.eval l) (a.eval c)) (fun a => by simp [execOp, ho]) (fun w0 g w a r S => ahMake_sound S e (r.ev l) (r.ev c)) hk
  case slice t y lo hi mx =>
    unfold asliceH at e
    split at e
    · rename_i id off hy
      exact aop_of_gives (s := fun a => Instr.sliceAt t (a.eval y) (lo.map a.eval) (hi.map a.eval) (mx.map a.eval)) (fun a => by simp [execOp, ho]) (fun w0 g w a r S => ahSliceArr_sound S e (by have := r.ev y; rwa [hy] at this) a.eval) hk
    · refine quiet ?_
      rw [ho]
      simp only [aq]
      exact e
  case call c =>
    unfold acallH at e
    split at e
    · rename_i t t2 y z hc ht ha
      have e1 : c.argTypes = #[t, t2] := by rw [← Array.toArray_toList (xs := c.argTypes), ht]
      have e2 : c.args = #[y, z] := by rw [← Array.toArray_toList (xs := c.args), ha]
      exact aop_of_gives (s := fun a => Builtin.append_ #[t, t2] o.type #[a.eval y, a.eval z]) (fun a => by simp [execOp, ho, resolve, hc, e1, e2, invoke, builtin]) (fun w0 g w a r S => ahAppend_sound S e (r.ev y) (r.ev z)) hk
    · refine quiet ?_
      rw [ho]
      simp only [aq]
      exact e
  all_goals exact quiet (by rw [ho]; exact e)
end

/-! Calls. -/
def methCallee (P : Program) (x : AV) (name : String) (args : List AV) : Option (FuncId × List AV) :=
  match x with
  | .iface t v => match methT P t name with
    | some f => some (f, v :: args)
    | none => none
  | _ => none
def acallee (P : Program) (op : Op) (s : Slots) : Option (FuncId × List AV) :=
  match op with
  | .call c => match c.callee with
    | .invoke r name => methCallee P (Slots.ev s r) name (c.args.toList.map (Slots.ev s))
    | .value f => match Slots.ev s f with
      | .func (.func id) first captured => some (id, first ++ c.args.toList.map (Slots.ev s) ++ captured)
      | _ => none
    | _ => none
  | _ => none
/-- The function has a body of its own. -/
def callable (P : Program) (f : FuncId) : Prop := ∃ fn, P.funcs[f]? = some fn ∧ fn.name ≠ "runtime.NumGoroutine" ∧ fn.body.isNone = false
def ACallOp (P : Program) (f : FuncId) (xs : List AV) (h : AHeap) (K : AV → AHeap → Prop) : Prop := callable P f ∧ ACalls P f xs h K
def bindS (r : Option (AV × AHeap)) (K : AV → AHeap → Prop) : Prop :=
  match r with
  | some p => K p.1 p.2
  | none => False
def AStep (P : Program) (op : Op) (s : Slots) (h : AHeap) (K : AV → AHeap → Prop) : Prop :=
  match acallee P op s with
  | some (f, xs) => ACallOp P f xs h K
  | none => bindS (aop P op s h) K

section
variable {P : Program} {g : Ghost}
theorem CellsRel.append {xs ys : List AV} {vs us : List Value} (h : CellsRel g xs vs) (k : CellsRel g ys us) : CellsRel g (xs ++ ys) (vs ++ us) := by
  refine CellsRel.of_get? (by simp [h.1, k.1]) fun i x v hx hv => ?_
  by_cases hi : i < xs.length
  · rw [List.getElem?_append_left hi] at hx
    rw [List.getElem?_append_left (by have := h.1; omega)] at hv
    obtain ⟨v2, e2, r⟩ := h.get? hx
    rw [e2] at hv; injection hv with hv; rw [← hv]; exact r
  · rw [List.getElem?_append_right (by omega)] at hx
    rw [List.getElem?_append_right (by have := h.1; omega)] at hv
    rw [← h.1] at hv
    obtain ⟨v2, e2, r⟩ := k.get? hx
    rw [e2] at hv; injection hv with hv; rw [← hv]; exact r
theorem astep_sound {o : Oper} {st : ASt} {K : AV → AHeap → Prop} (hs : AStep P o.op st.s st.h K) : AOp P o st K := by
  unfold AStep at hs
  split at hs
  · rename_i f xs hc
    obtain ⟨⟨fn, hf, hname, hbody⟩, hcall⟩ := hs
    unfold acallee at hc
    split at hc
    · rename_i c ho
      split at hc
      · rename_i rv name hcal
        unfold methCallee at hc
        split at hc
        · rename_i t v hev
          split at hc
          · rename_i f' hm
            injection hc with hc
            simp only [Prod.mk.injEq] at hc
            obtain ⟨rfl, rfl⟩ := hc
            intro w0 g w a r S next Q hn
            have hfo := r.ev rv
            rw [hev] at hfo
            generalize hfv : a.eval rv = fv at hfo
            cases hfo with
            | iface _ _ x hx =>
              have hrel : ValsRel g (v :: c.args.toList.map (Slots.ev st.s)) (#[x] ++ c.args.map a.eval) := by
                unfold ValsRel
                simp only [Array.toList_append, Array.toList_map]
                exact CellsRel.append (xs := [v]) (vs := [x]) ⟨rfl, fun i p q => by
                  obtain rfl : i = 0 := by simpa using p
                  exact hx⟩ ⟨by simp, fun i p q => by simpa using r.ev _⟩
              have hrun : (execOp a.eval o).run P w = .ok (.enter f' (#[x] ++ c.args.map a.eval)) w := by
                have h0 : (#[Value.iface t x] ++ c.args.map a.eval)[0]? = some (.iface t x) := by
                  rw [Array.getElem?_append_left (by simp)]; rfl
                have h2 : (#[Value.iface t x] ++ c.args.map a.eval).extract 1 (#[Value.iface t x] ++ c.args.map a.eval).size = c.args.map a.eval := by
                  apply Array.ext'
                  simp
                  exact List.take_of_length_le (by simp)
                simp only [execOp, ho, resolve, hcal, hfv, Sem.run_bind, Sem.run_pure, Result.andThen_ok, invoke, h0, h2, callMethod, run_program, run_method hm, callFunc, hf]
                have h1 : (fn.name == "runtime.NumGoroutine") = false := by simpa using hname
                simp [h1, hbody]
              unfold Oper.wp
              rw [hrun]
              refine (hcall w0 g w _ hrel S).mono ?_
              rintro e w' ⟨x, v, h', g', rfl, l, hv, S', k⟩
              exact hn v w' g' x h' l hv S' k
          · cases hc
        · cases hc
      · rename_i fo hcal
        split at hc
        · rename_i id first captured hev
          simp only [Option.some.injEq, Prod.mk.injEq] at hc
          obtain ⟨rfl, rfl⟩ := hc
          intro w0 g w a r S next Q hn
          have hfo := r.ev fo
          rw [hev] at hfo
          generalize hfv : a.eval fo = fv at hfo
          cases hfo with
          | func _ _ _ fa ca l1 l2 r1 r2 =>
            have hrel : ValsRel g (first ++ c.args.toList.map (Slots.ev st.s) ++ captured) (fa ++ c.args.map a.eval ++ ca) := by
              unfold ValsRel
              simp only [Array.toList_append, Array.toList_map]
              exact (CellsRel.append (CellsRel.append ⟨by simpa using l1, fun i p q => by simpa using r1 i p (by simpa using q)⟩ ⟨by simp, fun i p q => by simpa using r.ev _⟩) ⟨by simpa using l2, fun i p q => by simpa using r2 i p (by simpa using q)⟩)
            have hrun : (execOp a.eval o).run P w = .ok (.enter id (fa ++ c.args.map a.eval ++ ca)) w := by
              simp only [execOp, ho, resolve, hcal, hfv, Deferred.ofValue, Sem.run_bind, Sem.run_pure, Result.andThen_ok, invoke, callFunc, run_program, hf]
              have h1 : (fn.name == "runtime.NumGoroutine") = false := by simpa using hname
              simp [h1, hbody]
            unfold Oper.wp
            rw [hrun]
            refine (hcall w0 g w _ hrel S).mono ?_
            rintro e w' ⟨x, v, h', g', rfl, l, hv, S', k⟩
            exact hn v w' g' x h' l hv S' k
        · cases hc
      · cases hc
    · cases hc
  · unfold bindS at hs
    split at hs
    · rename_i p hp
      exact aop_sound hp hs
    · exact hs.elim
end
/-- A call of yield: which loop's, and with what. -/
def ayield (op : Op) (s : Slots) : Option (Nat × List AV) :=
  match op with
  | .call c => match c.callee with
    | .value f => match Slots.ev s f with
      | .func (.yield l) [] [] => some (l, c.args.toList.map (Slots.ev s))
      | _ => none
    | _ => none
  | _ => none
def AStepE {P : Program} (E : Env P) (op : Op) (s : Slots) (h : AHeap) (K : AV → AHeap → Prop) : Prop :=
  match ayield op s with
  | some (l, xs) => E.Y l xs h K
  | none => AStep P op s h K
theorem YieldAt.mono' {F : Fence} {m : Nat} {P : Program} {l : Nat} {args : Array Value} {W : World} {R R' : Ending → World → Prop} (h : YieldAt F m P l args W R) (hr : ∀ e w, R e w → R' e w) : YieldAt F m P l args W R' := h.mono hr
theorem astepE_sound {P : Program} {E : Env P} {o : Oper} {st : ASt} {K : AV → AHeap → Prop} (hs : AStepE E o.op st.s st.h K) : AOpE E o st K := by
  unfold AStepE at hs
  split at hs
  · rename_i l xs hc
    unfold ayield at hc
    split at hc
    · rename_i c ho
      split at hc
      · rename_i fo hcal
        split at hc
        · rename_i id hev
          simp only [Option.some.injEq, Prod.mk.injEq] at hc
          obtain ⟨rfl, rfl⟩ := hc
          intro m w0 g w a hC r S next Q hn
          have hfo := r.ev fo
          rw [hev] at hfo
          generalize hfv : a.eval fo = fv at hfo
          cases hfo with
          | func _ _ _ fa ca l1 l2 r1 r2 =>
            have e1 : fa = #[] := Array.eq_empty_of_size_eq_zero (by simpa using l1.symm)
            have e2 : ca = #[] := Array.eq_empty_of_size_eq_zero (by simpa using l2.symm)
            subst e1; subst e2
            have hrel : ValsRel g (c.args.toList.map (Slots.ev st.s)) (c.args.map a.eval) := by
              unfold ValsRel
              simp only [Array.toList_map]
              exact ⟨by simp, fun i p q => by simpa using r.ev _⟩
            obtain ⟨fn, tmps, assign, body, hy, hR⟩ := E.sound hs (m - 1) w0 g w _ hC hrel S
            have hrun : (execOp a.eval o).run P w = .ok (.round id fn tmps assign body) w := by
              have e3 : (#[] ++ Array.map a.eval c.args ++ #[] : Array Value) = Array.map a.eval c.args := by simp
              simp only [execOp, ho, resolve, hcal, hfv, Deferred.ofValue, Sem.run_bind, Sem.run_pure, Result.andThen_ok, invoke, e3]
              simpa using hy
            refine ⟨fun _ _ => trivial, ?_⟩
            rw [show (RF E.ro).round = E.ro from rfl, Oper.semAt_eq E.ro _ o (fun c e => by rw [ho] at e; cases e), hrun]
            refine ⟨fun hh => by simp [RF, Fence.wide] at hh, ?_⟩
            have hY : YieldAt (RF E.ro) (m - 1) P id (c.args.map a.eval) w fun e w' => ∃ r v h' g', e = .returned v ∧ g.le g' ∧ VRel g' r v ∧ Sim w0 g' h' w' ∧ K r h' := ⟨fn, tmps, assign, body, hy, hR⟩
            obtain ⟨fn', tmps', assign', body', hy', hR'⟩ := hY.mono (R' := fun
              | .returned v, w'' => next (a.put o.dst v) w''
              | .panicked chain, w'' => Q (.panic chain) a w''
              | .outgrown, _ => LetsOut Q) fun e w' ⟨x, v, h', g', he, l, hv, S', k⟩ => by subst he; exact hn v w' g' x h' l hv S' k
            rw [hy] at hy'
            injection hy' with h1 h2
            injection h1 with _ h3 h4 h5 h6
            subst h3; subst h4; subst h5; subst h6
            exact hR'
        · cases hc
      · cases hc
    · cases hc
  · exact AOp.e (fun c e => by rw [e] at hs; simp [AStep, acallee, bindS, aop, aq] at hs) (astep_sound hs)
end Go.Proofs.Ytajgeofhlgoifaa.V
