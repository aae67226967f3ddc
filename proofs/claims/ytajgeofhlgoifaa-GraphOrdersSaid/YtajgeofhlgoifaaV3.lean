/- Code over abstract states: what it comes to, and the rules of control. No program is named here. -/
import Derived.Test.YtajgeofhlgoifaaV2
import Derived.Deep.LoopGhost
import Derived.Scope
import Derived.ScopeJumps
import Derived.Sort.LoopGhostIn
import Derived.RangeFuncNested
import Derived.RangeFuncBound
import Derived.RangeFuncCalls
import Derived.RangeFuncLeaves
import Derived.Test.YtajgeofhlgoifaaRegion
set_option linter.unusedVariables false
set_option linter.unusedSimpArgs false
namespace Go.Proofs.Ytajgeofhlgoifaa.V
open Go Go.RowKit

abbrev Slots := List (Nat × AV)
def Slots.get : Slots → Nat → AV
  | [], _ => .undef
  | (k, v) :: l, t => if k = t then v else Slots.get l t
/-- A state: how many slots there are, what is known of them, the heap. -/
structure ASt where
  n : Nat
  s : Slots
  h : AHeap
def Slots.put (n : Nat) (s : Slots) (d : Option Nat) (v : AV) : Slots :=
  match d with
  | some d => if d < n then (d, v) :: s else s
  | none => s
def Slots.ev (s : Slots) : Operand → AV
  | .tmp t => Slots.get s t
  | .const v => .ofConst v
  | .global _ => .undef
  | .func f => .func (.func f) [] []

def markD (D : Nat) : Deferred := { target := .collected D, args := #[] }
/-- The marks of loops over functions. -/
def Marks (g : Ghost) (l : List Deferred) : Prop := ∃ Ds : List Nat, l = Ds.map markD ∧ Ds.Nodup ∧ ∀ D ∈ Ds, g.b0 ≤ D ∧ g.pin D = some (.deferred (some []))
theorem Marks.nil (g : Ghost) : Marks g [] := ⟨[], rfl, List.nodup_nil, fun _ h => by cases h⟩
theorem Marks.mono {g g' : Ghost} (l : g.le g') {d : List Deferred} (h : Marks g d) : Marks g' d := by
  obtain ⟨Ds, e, hn, hD⟩ := h
  exact ⟨Ds, e, hn, fun D hd => ⟨by rw [l.b0]; exact (hD D hd).1, l.pin _ _ (hD D hd).2⟩⟩
structure StRel (g : Ghost) (st : ASt) (a : Act) : Prop where
  defers : Marks g a.defers
  size : a.tmps.size = st.n
  slots : ∀ t, VRel g (Slots.get st.s t) (a.tmps.getD t Go.undef)
theorem StRel.mono {g g' : Ghost} (l : g.le g') {st : ASt} {a : Act} (h : StRel g st a) : StRel g' st a := ⟨h.defers.mono l, h.size, fun t => (h.slots t).mono l⟩
theorem StRel.ev {g : Ghost} {st : ASt} {a : Act} (h : StRel g st a) (x : Operand) : VRel g (Slots.ev st.s x) (a.eval x) := by
  cases x with
  | tmp t => exact h.slots t
  | const v => exact .ofConst g v
  | global b => exact .undef _
  | func f => exact .func _ _ _ _ _ rfl rfl (fun i h => absurd h (by simp)) (fun i h => absurd h (by simp))
theorem StRel.put {g : Ghost} {st : ASt} {a : Act} (r : StRel g st a) (d : Option Nat) {x : AV} {v : Value} (hv : VRel g x v) (h : AHeap) : StRel g ⟨st.n, Slots.put st.n st.s d x, h⟩ (a.put d v) := by
  cases d with
  | none => exact ⟨r.defers, r.size, r.slots⟩
  | some d =>
    refine ⟨r.defers, by simpa [Act.put] using r.size, fun t => ?_⟩
    simp only [Slots.put, Act.put]
    split
    · rename_i hd
      show VRel g (if d = t then x else Slots.get st.s t) _
      split
      · rename_i e
        subst e
        have : d < a.tmps.size := by rw [r.size]; exact hd
        simpa [Array.getD_eq_getD_getElem?, Array.getElem?_setIfInBounds, this] using hv
      · rename_i e
        simpa [Array.getD_eq_getD_getElem?, Array.getElem?_setIfInBounds, e] using r.slots t
    · rename_i hd
      have : ¬ d < a.tmps.size := by rw [r.size]; exact hd
      have e : a.tmps.setIfInBounds d v = a.tmps := by simp [Array.setIfInBounds, this]
      simpa [e] using r.slots t
theorem StRel.heap {g : Ghost} {st : ASt} {a : Act} (r : StRel g st a) (h : AHeap) : StRel g { st with h := h } a := ⟨r.defers, r.size, r.slots⟩
/-- A state that knows less. -/
def ASt.le (a b : ASt) : Prop := b.n = a.n ∧ b.h = a.h ∧ ∀ t, Slots.get b.s t = .undef ∨ Slots.get b.s t = Slots.get a.s t
theorem StRel.weaken {g : Ghost} {st st' : ASt} {a : Act} (r : StRel g st a) (l : st.le st') : StRel g st' a :=
  ⟨r.defers, r.size.trans l.1.symm, fun t => by
    rcases l.2.2 t with e | e
    · rw [e]; exact .undef _
    · rw [e]; exact r.slots t⟩

abbrev Post := Exit → ASt → Prop
def Stands (w0 : World) (g : Ghost) (Q : Post) : Exit → Act → World → Prop := fun e a w => ∃ st g', g.le g' ∧ StRel g' st a ∧ Sim w0 g' st.h w ∧ Q e st
def ValsRel (g : Ghost) (xs : List AV) (vs : Array Value) : Prop := CellsRel g xs vs.toList
def RF (ro : Option Nat) : Fence := { Fence.wide with round := ro }
/-- Where code is walked: in which round; what is known; what a call of yield comes to. -/
structure Env (P : Program) where
  ro : Option Nat
  C : Ghost → Prop
  mono : ∀ {g g' : Ghost}, g.le g' → C g → C g'
  hold : ∀ {g : Ghost} (b0 : Nat), C g → C (g.hold g.pin b0)
  Y : Nat → List AV → AHeap → (AV → AHeap → Prop) → Prop
  sound : ∀ {l : Nat} {xs : List AV} {h : AHeap} {K : AV → AHeap → Prop}, Y l xs h K → ∀ n w0 g w vs, C g → ValsRel g xs vs → Sim w0 g h w →
    YieldAt (RF ro) n P l vs w fun e w' => ∃ r v h' g', e = .returned v ∧ g.le g' ∧ VRel g' r v ∧ Sim w0 g' h' w' ∧ K r h'
def E0 (P : Program) : Env P := ⟨none, fun _ => True, fun _ _ => trivial, fun _ _ => trivial, fun _ _ _ _ => False, fun h => h.elim⟩
def AWP {P : Program} (E : Env P) (c : Code) (Q : Post) (st : ASt) : Prop :=
  ∀ m w0 g w a, E.C g → StRel g st a → Sim w0 g st.h w → c.wpIn (RF E.ro) m P (Stands w0 g Q) a w

section
variable {P : Program} {E : Env P} {Q : Post} {st : ASt}
theorem AWP.mono {c : Code} {Q' : Post} (h : AWP E c Q st) (hq : ∀ e s, Q e s → Q' e s) : AWP E c Q' st :=
  fun m w0 g w a hC r S => wpIn_mono (h m w0 g w a hC r S) fun e a w ⟨s, g', l, r', S', q⟩ => ⟨s, g', l, r', S', hq e s q⟩
theorem AWP.weaken {c : Code} {st' : ASt} (l : st.le st') (h : AWP E c Q st') : AWP E c Q st :=
  fun m w0 g w a hC r S => h m w0 g w a hC (r.weaken l) (by rw [l.2.1]; exact S)
theorem awp_skip (h : Q .normal st) : AWP E .skip Q st := fun m w0 g w a hC r S => wpIn_skip ⟨st, g, .refl g, r, S, h⟩
theorem awp_label {l : Nat} (h : Q .normal st) : AWP E (.label l) Q st := fun m w0 g w a hC r S => wpIn_label ⟨st, g, .refl g, r, S, h⟩
theorem awp_exit {id : Nat} (h : Q (.exit id) st) : AWP E (.exit id) Q st := fun m w0 g w a hC r S => wpIn_exit ⟨st, g, .refl g, r, S, h⟩
theorem awp_goto {l : Nat} (h : Q (.goto l) st) : AWP E (.goto l) Q st := fun m w0 g w a hC r S => wpIn_goto ⟨st, g, .refl g, r, S, h⟩
theorem awp_ret (h : Q .ret st) : AWP E .ret Q st := fun m w0 g w a hC r S => wpIn_ret ⟨st, g, .refl g, r, S, h⟩
def Post.then (N : ASt → Prop) (Q : Post) : Post
  | .normal, s => N s
  | e, s => Q e s
theorem awp_seq {x y : Code} (h : AWP E x (Post.then (AWP E y Q) Q) st) : AWP E (.seq x y) Q st := fun m w0 g w a hC r S => by
  refine wpIn_seq (wpIn_mono (h m w0 g w a hC r S) ?_)
  rintro e a' w' ⟨s, g', l, r', S', q⟩
  cases e with
  | normal => exact wpIn_mono (q m w0 g' w' a' (E.mono l hC) r' S') fun e a w ⟨s2, g2, l2, r2, S2, q2⟩ => ⟨s2, g2, l.trans l2, r2, S2, q2⟩
  | _ => exact ⟨s, g', l, r', S', q⟩
theorem awp_cond {c : Operand} {x y : Code} {t : Bool} (hc : Slots.ev st.s c = .bool t) (hx : t = true → AWP E x Q st) (hy : t = false → AWP E y Q st) : AWP E (.cond c x y) Q st := fun m w0 g w a hC r S => by
  have h1 := r.ev c
  rw [hc] at h1
  exact wpIn_cond_split h1.bool_eq (fun e => hx e m w0 g w a hC r S) (fun e => hy e m w0 g w a hC r S)
def Post.block (id : Nat) (Q : Post) : Post
  | .exit i, s => if i = id then Q .normal s else Q (.exit i) s
  | e, s => Q e s
theorem awp_block {id : Nat} {c : Code} (h : AWP E c (Post.block id Q) st) : AWP E (.block id c) Q st := fun m w0 g w a hC r S => by
  refine wpIn_block (wpIn_mono (h m w0 g w a hC r S) ?_)
  rintro e a' w' ⟨s, g', l, r', S', q⟩
  cases e with
  | exit i =>
    simp only [Exit.inBlock]
    simp only [Post.block] at q
    split at q
    · rw [if_pos ‹_›]; exact ⟨s, g', l, r', S', q⟩
    · rw [if_neg ‹_›]; exact ⟨s, g', l, r', S', q⟩
  | _ => exact ⟨s, g', l, r', S', q⟩
/-- A loop: what holds at each round's head, with a number that each round lowers. -/
theorem awp_loop {c : Code} (I : Nat → ASt → Prop) (n : Nat) (h0 : I n st) (round : ∀ n st, I n st → AWP E c (Post.then (fun s => ∃ m, m < n ∧ I m s) Q) st) : AWP E (.loop c) Q st := fun m w0 g w a hC r S => by
  refine wpIn_loop_ghost (fun n a w => ∃ s g', g.le g' ∧ StRel g' s a ∧ Sim w0 g' s.h w ∧ I n s) n ⟨st, g, .refl g, r, S, h0⟩ ?_
  rintro n a w ⟨s, g', l, r', S', hI⟩
  refine wpIn_mono (round n s hI m w0 g' w a (E.mono l hC) r' S') ?_
  rintro e a2 w2 ⟨s2, g2, l2, r2, S2, q⟩
  cases e with
  | normal => obtain ⟨m, hm, hI2⟩ := q; exact ⟨m, hm, s2, g2, l.trans l2, r2, S2, hI2⟩
  | _ => exact ⟨s2, g2, l.trans l2, r2, S2, q⟩
def Post.noGoto (Q : Post) : Post
  | .goto _, _ => False
  | e, s => Q e s
theorem awp_scope {c : Code} (h : AWP (E0 P) c (Post.noGoto Q) st) : AWP (E0 P) (.scope c) Q st := fun m w0 g w a hC r S => by
  refine wpIn_wide.2 (wp_scope_straight (wp_mono (wpIn_wide.1 (h m w0 g w a hC r S)) ?_))
  rintro e a' w' ⟨s, g', l, r', S', q⟩
  cases e with
  | goto i => exact q.elim
  | _ => exact ⟨s, g', l, r', S', q⟩
/-- A scope in which there are jumps back to one label: what holds at each jump, with a number that each pass lowers. -/
def Post.jump (l : Nat) (J : ASt → Prop) (Q : Post) : Post
  | .goto i, s => i = l ∧ J s
  | e, s => Q e s
theorem awp_jumps {c rest : Code} (l : Nat) (I : Nat → ASt → Prop) (hf : findLabel c l = some rest) (first : AWP (E0 P) c (Post.jump l (fun s => ∃ n, I n s) Q) st)
    (pass : ∀ n st, I n st → AWP (E0 P) rest (Post.jump l (fun s => ∃ m, m < n ∧ I m s) Q) st) : AWP (E0 P) (.scope c) Q st := fun m w0 g w a hC r S => by
  let J : Nat → Act → World → Prop := fun n a w => ∃ s g', g.le g' ∧ StRel g' s a ∧ Sim w0 g' s.h w ∧ I n s
  refine wpIn_wide.2 (wp_scope_jumps l (fun a w => ∃ n, J n a w) (fun a w => leastOf (fun n => J n a w)) hf (wp_mono (wpIn_wide.1 (first m w0 g w a hC r S)) ?_) ?_)
  · rintro e a' w' ⟨s, g', l', r', S', q⟩
    cases e with
    | goto i => obtain ⟨rfl, n, hI⟩ := q; exact ⟨rfl, n, s, g', l', r', S', hI⟩
    | _ => exact ⟨s, g', l', r', S', q⟩
  · intro a w hI
    obtain ⟨⟨s, g', l', r', S', hI'⟩, _⟩ := leastOf_spec hI
    refine wp_mono (wpIn_wide.1 (pass _ s hI' m w0 g' w a trivial r' S')) ?_
    rintro e a2 w2 ⟨s2, g2, l2, r2, S2, q⟩
    cases e with
    | goto i =>
      obtain ⟨rfl, n', hn', hI2⟩ := q
      have hJ : J n' a2 w2 := ⟨s2, g2, l'.trans l2, r2, S2, hI2⟩
      exact ⟨rfl, ⟨n', hJ⟩, Nat.lt_of_le_of_lt ((leastOf_spec ⟨_, hJ⟩).2 _ hJ) hn'⟩
    | _ => exact ⟨s2, g2, l'.trans l2, r2, S2, q⟩
end

/-! Calls. -/
/-- A call of f: what it hands back, and what the heap is then. -/
def ACalls (P : Program) (f : FuncId) (xs : List AV) (h : AHeap) (R : AV → AHeap → Prop) : Prop :=
  ∀ w0 g w vs, ValsRel g xs vs → Sim w0 g h w → Calls P f vs w fun e w' => ∃ r v h' g', e = .returned v ∧ g.le g' ∧ VRel g' r v ∧ Sim w0 g' h' w' ∧ R r h'
theorem ACalls.mono {P : Program} {f : FuncId} {xs : List AV} {h : AHeap} {R R' : AV → AHeap → Prop} (c : ACalls P f xs h R) (hr : ∀ r h, R r h → R' r h) : ACalls P f xs h R' :=
  fun w0 g w vs hv S => (c w0 g w vs hv S).mono fun e w' ⟨r, v, h', g', e1, l, hv', S', q⟩ => ⟨r, v, h', g', e1, l, hv', S', hr r h' q⟩

/-- The same, in an environment. -/
def ACallsE {P : Program} (E : Env P) (f : FuncId) (xs : List AV) (h : AHeap) (R : AV → AHeap → Prop) : Prop :=
  ∀ w0 g w vs, E.C g → ValsRel g xs vs → Sim w0 g h w → Calls P f vs w fun e w' => ∃ r v h' g', e = .returned v ∧ g.le g' ∧ VRel g' r v ∧ Sim w0 g' h' w' ∧ R r h'

/-! Operations. -/
/-- An operation: its value, and what the heap is then. -/
def AOp (P : Program) (o : Oper) (st : ASt) (K : AV → AHeap → Prop) : Prop :=
  ∀ w0 g w a, StRel g st a → Sim w0 g st.h w → ∀ next Q, (∀ v w' g' x h', g.le g' → VRel g' x v → Sim w0 g' h' w' → K x h' → next (a.put o.dst v) w') → o.wp P a w next Q
theorem AOp.mono {P : Program} {o : Oper} {st : ASt} {K K' : AV → AHeap → Prop} (h : AOp P o st K) (hk : ∀ x h, K x h → K' x h) : AOp P o st K' :=
  fun w0 g w a r S next Q hn => h w0 g w a r S next Q fun v w' g' x h' l hv S' k => hn v w' g' x h' l hv S' (hk x h' k)
def guardB (ops : Array Oper) (s : Slots) (o : Oper) : AV :=
  match o.guard with
  | none => .bool true
  | some (j, want) =>
    match (ops[j]?).bind (·.dst) with
    | some t => match Slots.get s t with
      | .bool b => .bool (b == want)
      | .tuple [] => .bool false
      | _ => .undef
    | none => .undef
/-- Is the operation wanted? Both ways, where that isn't known. -/
def wantedThen (b : AV) (yes no : Prop) : Prop :=
  match b with
  | .bool b => if b = true then yes else no
  | _ => False
/-- An operation, in a round or not, yield among them. -/
def AOpE {P : Program} (E : Env P) (o : Oper) (st : ASt) (K : AV → AHeap → Prop) : Prop :=
  ∀ m w0 g w a, E.C g → StRel g st a → Sim w0 g st.h w → ∀ next Q, (∀ v w' g' x h', g.le g' → VRel g' x v → Sim w0 g' h' w' → K x h' → next (a.put o.dst v) w') → o.wpIn (RF E.ro) m P a w next Q
theorem AOpE.mono {P : Program} {E : Env P} {o : Oper} {st : ASt} {K K' : AV → AHeap → Prop} (h : AOpE E o st K) (hk : ∀ x h, K x h → K' x h) : AOpE E o st K' :=
  fun m w0 g w a hC r S next Q hn => h m w0 g w a hC r S next Q fun v w' g' x h' l hv S' k => hn v w' g' x h' l hv S' (hk x h' k)
theorem callsIn_rf {ro : Option Nat} {m : Nat} {P : Program} {f : FuncId} {args : Array Value} {w : World} {R : Ending → World → Prop} (h : Calls P f args w R) : CallsIn (RF ro) m P f args w R := by
  cases ro with
  | none => exact callsIn_wide.2 h
  | some l => exact CallsIn.inRound l (callsIn_wide.2 h)
theorem rowsIn_rf {ro : Option Nat} {m : Nat} {P : Program} {row : String} {args : Array Value} {w : World} {R : Value → World → Prop} (h : Rows P row args w R) : RowsIn (RF ro) m P row args w R := fun c cs _ => by
  obtain ⟨v, w', hR, hs⟩ := h c cs
  exact ⟨v, w', hR, stepsIn_wide.2 hs⟩
theorem opwp_rf {ro : Option Nat} {m : Nat} {P : Program} {o : Oper} {a : Act} {w : World} {next : Act → World → Prop} {Q : Exit → Act → World → Prop} (hd : ∀ c, o.op ≠ .defer c) (h : o.wp P a w next Q) : o.wpIn (RF ro) m P a w next Q := by
  refine ⟨fun _ _ => trivial, ?_⟩
  rw [show (RF ro).round = ro from rfl, Oper.semAt_eq ro _ o hd]
  unfold Oper.wp at h
  generalize (execOp a.eval o).run P w = r at h ⊢
  cases r with
  | ok x w' => cases x with
    | value v => exact h
    | skip => exact h
    | defer d => exact h
    | enter f args => exact ⟨fun hh => by simp [RF, Fence.wide] at hh, (callsIn_rf (show Calls P f args w' _ from h)).mono fun e w'' q => by cases e <;> exact q⟩
    | row row args => exact ⟨fun hh => by simp [RF, Fence.wide] at hh, rowsIn_rf h⟩
    | _ => exact h.elim
  | halt hh w' => cases hh <;> exact h
theorem AOp.e {P : Program} {E : Env P} {o : Oper} {st : ASt} {K : AV → AHeap → Prop} (hd : ∀ c, o.op ≠ .defer c) (h : AOp P o st K) : AOpE E o st K :=
  fun m w0 g w a hC r S next Q hn => opwp_rf hd (h w0 g w a r S next Q hn)
def AOps {P : Program} (E : Env P) (ops : Array Oper) : List Oper → ASt → (ASt → Prop) → Prop
  | [], st, K => K st
  | o :: r, st, K => wantedThen (guardB ops st.s o) (AOpE E o st fun x h => AOps E ops r ⟨st.n, Slots.put st.n st.s o.dst x, h⟩ K) (AOps E ops r ⟨st.n, Slots.put st.n st.s o.dst (.tuple []), st.h⟩ K)
theorem wanted_of {g : Ghost} {ops : Array Oper} {st : ASt} {a : Act} (r : StRel g st a) {o : Oper} {yes no : Prop} (h : wantedThen (guardB ops st.s o) yes no) :
    (Region.wanted o (yielded ops a.tmps) = true ∧ yes) ∨ (Region.wanted o (yielded ops a.tmps) = false ∧ no) := by
  unfold guardB at h
  unfold Region.wanted
  cases hg : o.guard with
  | none => rw [hg] at h; exact .inl ⟨rfl, by simpa [wantedThen] using h⟩
  | some p =>
    obtain ⟨j, want⟩ := p
    rw [hg] at h
    simp only at h ⊢
    cases hd : (ops[j]?).bind (·.dst) with
    | none => rw [hd] at h; exact h.elim
    | some t =>
      rw [hd] at h
      simp only at h
      have hr := r.slots t
      cases hs : Slots.get st.s t with
      | bool b =>
        rw [hs] at h hr
        have e := hr.bool_eq
        have hy : yielded ops a.tmps j = some b := by
          unfold yielded
          rw [hd]
          have : a.tmps[t]? = some (.bool b) := by
            rw [Array.getD_eq_getD_getElem?] at e
            cases hq : a.tmps[t]? with
            | none => rw [hq] at e; simp [Go.undef] at e
            | some u => rw [hq] at e; simp at e; rw [e]
          simp [this]
        rw [hy]
        simp only [wantedThen] at h
        cases hb : (b == want) with
        | true => rw [hb] at h; exact .inl ⟨by simpa using hb, by simpa using h⟩
        | false => rw [hb] at h; exact .inr ⟨by simpa using hb, by simpa using h⟩
      | tuple vs =>
        cases vs with
        | nil =>
          rw [hs] at h hr
          refine .inr ⟨?_, by simpa [wantedThen] using h⟩
          have e : a.tmps.getD t Go.undef = .tuple #[] := by
            generalize a.tmps.getD t Go.undef = v at hr
            cases hr with
            | tuple _ ws hl _ => rw [Array.size_eq_zero_iff.1 hl.symm]
          have hy : yielded ops a.tmps j = none := by
            unfold yielded
            rw [hd]
            rw [Array.getD_eq_getD_getElem?] at e
            cases hq : a.tmps[t]? with
            | none => simp [hq]
            | some u => rw [hq] at e; simp at e; simp [hq, e]
          rw [hy]; rfl
        | cons x xs => rw [hs] at h; exact h.elim
      | _ => rw [hs] at h; exact h.elim
theorem void_rel (g : Ghost) : VRel g (.tuple []) Go.undef := .tuple _ _ rfl (fun i h => absurd h (by simp))
theorem aops_sound {P : Program} {E : Env P} {ops : Array Oper} {Q : Exit → Act → World → Prop} : ∀ (l : List Oper) (st : ASt) (K : ASt → Prop), AOps E ops l st K → ∀ m w0 g w a, E.C g → StRel g st a → Sim w0 g st.h w →
    (∀ s g' a' w', g.le g' → StRel g' s a' → Sim w0 g' s.h w' → K s → Q .normal a' w') → wpListIn (RF E.ro) m P ops Q l a w
  | [], st, K, h, m, w0, g, w, a, hC, r, S, hn => wpListIn_nil (hn st g a w (.refl g) r S h)
  | o :: l, st, K, h, m, w0, g, w, a, hC, r, S, hn => by
    refine wpListIn_step fun K' hK => ?_
    rcases wanted_of r h with ⟨hw, hy⟩ | ⟨hw, hno⟩
    · rw [if_pos hw]
      refine hy m w0 g w a hC r S K' Q fun v w' g' x h' l' hv S' k => hK _ _ ?_
      exact aops_sound l _ K k m w0 g' w' _ (E.mono l' hC) ((r.mono l').put o.dst hv h') S' fun s g2 a2 w2 l2 r2 S2 k2 => hn s g2 a2 w2 (l'.trans l2) r2 S2 k2
    · rw [if_neg (by simp [hw])]
      exact ⟨fun _ _ => trivial, hK _ _ (aops_sound l _ K hno m w0 g w _ hC (r.put o.dst (void_rel g) st.h) S hn)⟩
theorem awp_region {P : Program} {E : Env P} {id : Nat} {l : List Oper} {Q : Post} {st : ASt} (h : AOps E l.toArray l st (Q .normal)) : AWP E (.region id l.toArray false) Q st := fun m w0 g w a hC r S =>
  wpIn_region_lit (aops_sound l st _ h m w0 g w a hC r S fun s g' a' w' l' r' S' k => ⟨s, g', l', r', S', k⟩)
end Go.Proofs.Ytajgeofhlgoifaa.V
