/- Operations that read nothing but what is fixed: the whole. No program is named here. -/
import Derived.Test.YtajgeofhlgoifaaV8
set_option linter.unusedVariables false
set_option linter.unusedSimpArgs false
namespace Go.Proofs.Ytajgeofhlgoifaa.V
open Go Go.RowKit

def alen (P : Program) (t : TypeId) (x : AV) : Option AV :=
  match P.underlying t, x with
  | some .string, .str s => some (.int .i64 s.length)
  | some (.slice _), .list xs _ => some (.int .i64 xs.length)
  | some (.slice _), .arr _ _ n _ => some (.int .i64 n)
  | some (.array n _), _ => some (.int .i64 n)
  | _, _ => none
def amin (x y : AV) : Option AV :=
  match x, y with
  | .int k a, .int k' b => if k = k' then some (.int k (if b < a then b else a)) else none
  | _, _ => none
def amax (x y : AV) : Option AV :=
  match x, y with
  | .int k a, .int k' b => if k = k' then some (.int k (if a < b then b else a)) else none
  | _, _ => none
def acallQ (P : Program) (c : Call) (s : Slots) : Option AV :=
  match c.callee, c.argTypes.toList, c.args.toList with
  | .builtin .len, [t], [x] => alen P t (Slots.ev s x)
  | .builtin .min, _, [x, y] => amin (Slots.ev s x) (Slots.ev s y)
  | .builtin .max, _, [x, y] => amax (Slots.ev s x) (Slots.ev s y)
  | _, _, _ => none
def aarr (P : Program) (t : TypeId) (x : AV) : Option AV :=
  match P.underlying t, x with
  | some (.array n e), .list xs _ =>
    match sizeT P e with
    | some k => if 0 < n ∧ n ≤ xs.length ∧ uni k xs = true then some (.ref ((xs.take n).flatMap AV.cells) 0) else none
    | none => none
  | _, _ => none
def aiface (P : Program) (t : TypeId) (x : AV) : Option AV :=
  match P.underlying t with
  | some (.interface _) => none
  | some _ => some (.iface t x)
  | none => none
def apick (c x y : AV) : Option AV :=
  match c with
  | .bool t => some (if t = true then x else y)
  | _ => none
def aq (P : Program) (op : Op) (s : Slots) : Option AV :=
  match op with
  | .move x => some (Slots.ev s x)
  | .assign x => some (Slots.ev s x)
  | .pick c a b => apick (Slots.ev s c) (Slots.ev s a) (Slots.ev s b)
  | .binOp op t x y _ => abin P op t (Slots.ev s x) (Slots.ev s y)
  | .unOp op _ x => aun op (Slots.ev s x)
  | .convert src dst x => aconv P src dst (Slots.ev s x)
  | .nilCheck x => anilCheck P (Slots.ev s x)
  | .extract x i => aextract (Slots.ev s x) i
  | .makeInterface t x => aiface P t (Slots.ev s x)
  | .makeFunc fn f c => some (.func fn (f.toList.map (Slots.ev s)) (c.toList.map (Slots.ev s)))
  | .slice t x lo hi mx => aslice P t (Slots.ev s x) (lo.map (Slots.ev s)) (hi.map (Slots.ev s)) (mx.map (Slots.ev s))
  | .fieldAddr t x f => afieldAt P t (Slots.ev s x) f
  | .field t x f => afield P t (Slots.ev s x) f
  | .indexAddr t x i => aidx P t (Slots.ev s x) (Slots.ev s i)
  | .index t x i => aindex P t (Slots.ev s x) (Slots.ev s i)
  | .load t x => aloadRef P t (Slots.ev s x)
  | .sliceToArrayPointer t x => aarr P t (Slots.ev s x)
  | .build t parts => abuild P t (parts.toList.map fun p => (p.1, Slots.ev s p.2))
  | .call c => acallQ P c s
  | _ => none

def AQuiet (P : Program) (o : Oper) (st : ASt) (x : AV) : Prop :=
  ∀ g a, StRel g st a → ∃ v, VRel g x v ∧ ∀ w, Agree g w → (execOp a.eval o).run P w = .ok (.value v) w

section
variable {P : Program} {g : Ghost}
theorem aconv_sound {src dst : TypeId} {x z : AV} (h : aconv P src dst x = some z) {vx : Value} (hx : VRel g x vx) : Yield P g z (convert src dst vx) := by
  unfold aconv at h
  split at h
  · rename_i d k k' n hs hd
    injection h with h; subst h
    rw [hx.int_eq]
    exact yield_pure (.int _ _) fun w => by simp [convert, run_underlying hs, run_underlying hd, Conv.intToInt]
  · rename_i d s hs hd
    injection h with h; subst h
    rw [hx.str_eq]
    exact yield_pure (.str _) fun w => by simp [convert, run_underlying hs, run_underlying hd]
  · rename_i e xs tk hs hd
    split at h
    · rename_i he
      split at h
      · rename_i l hb
        injection h with h; subst h
        have hxs := bytesOf_spec hb
        subst hxs
        obtain ⟨a, c, rfl, hc, hm, hn, _, hL⟩ := hx.list_eq
        obtain ⟨b, o, u, L⟩ := hL 1 (uni_b8 l)
        refine ⟨_, .str l, fun w hag => ?_⟩
        cases a with
        | none =>
          have hl : l = [] := by
            cases l with
            | nil => rfl
            | cons y l => have := L.ha (by simp); cases this
          subst hl
          exact run_convert_bytes_nil w src e hs he _ _ dst hd
        | some ad =>
          have := run_convert_bytes_back w src dst e ad c l hs he hd (fun j hj => by
            have h1 := L.ha (by simp; omega)
            injection h1 with h1
            subst h1
            rw [Addr.add_lit]
            have h2 := hag _ _ _ (L.cell j (by simpa using hj) 0 (by omega))
            have h3 := L.rel j (by simpa using hj) 0 (by simp [b8, AV.cells])
            have h4 : (List.map b8 l)[j]'(by simpa using hj) = b8 l[j] := by simp
            simp only [h4, b8, AV.cells, List.getElem_cons_zero] at h3
            simp only [Nat.mul_one, Nat.add_zero] at h2 h3
            rw [h2, h3.int_eq])
          simpa using this
      · cases h
    · cases h
  · cases h
theorem abuild_sound {t : TypeId} {parts : List (Nat × AV)} {vparts : Array (Nat × Value)} {z : AV} (h : abuild P t parts = some z) (hl : parts.length = vparts.size)
    (hp : ∀ i (h : i < parts.length) (h' : i < vparts.size), parts[i].1 = vparts[i].1 ∧ VRel g parts[i].2 vparts[i].2) : Yield P g z (Instr.build t vparts) := by
  unfold abuild at h
  split at h
  · rename_i pl z0 hpl hz0
    split at h
    case isFalse => cases h
    rename_i hkn
    split at h
    · rename_i cs hf
      injection h with h; subst h
      unfold zeroA at hz0
      cases hi : P.info? t with
      | none => simp [hi] at hz0
      | some it =>
        cases hzz : it.zero with
        | none => simp [hi, hzz] at hz0
        | some zv =>
          have hz1 : AV.ofConst zv = z0 := by simpa [hi, hzz] using hz0
          have hzr : VRel g z0 zv := by rw [← hz1]; exact .ofConst g zv
          have hk : z0 ≠ .undef := by rintro rfl; cases hkn
          obtain ⟨c1, c2⟩ := hzr.cells hk
          obtain ⟨vs', hfill, hrel⟩ := afill_sound (vs := zv.cells) (vparts := vparts.toList) hf ⟨by simpa using c1, fun i a b => by simpa using c2 i a (by simpa using b)⟩ (by simpa using hl) (fun i a b => by simpa using hp i a (by simpa using b))
          refine ⟨.agg vs', .agg _ _ (by simpa using hrel.1) (fun i a b => by have := hrel.2 i a (by simpa using b); rw [Array.getElem_toList] at this; exact this), fun w _ => run_build w t vparts vs' ?_⟩
          unfold Program.built
          unfold placesOf at hpl
          rw [hi] at hpl ⊢
          cases hu : P.underlying t with
          | none => rw [hu] at hpl; cases hpl
          | some d =>
            rw [hu] at hpl
            cases d <;> simp only [reduceCtorEq] at hpl ⊢
            case array n e =>
              rw [hzz] at hpl ⊢
              cases hie : P.info? e with
              | none => rw [hie] at hpl; cases hpl
              | some ie =>
                rw [hie] at hpl
                simp only [Option.some.injEq] at hpl ⊢
                rw [hpl]; exact hfill
            case struct fields =>
              rw [hzz] at hpl ⊢
              cases hpp : fields.toList.mapM (fun f => (P.info? f.type).map fun i => (f.offset, i.size)) with
              | none => rw [hpp] at hpl; cases hpl
              | some places =>
                rw [hpp] at hpl
                simp only [Option.some.injEq] at hpl ⊢
                rw [hpl]; exact hfill
    · cases h
  · cases h
theorem flat_len {k : Nat} : ∀ {xs : List AV}, uni k xs = true → (xs.flatMap AV.cells).length = xs.length * k
  | [], _ => by simp
  | x :: r, h => by
    have h0 := uni_spec h 0 (by simp)
    have hr : uni k r = true := by unfold uni at h ⊢; simp only [List.all_cons, Bool.and_eq_true] at h; exact h.2
    simp only [List.getElem_cons_zero] at h0
    simp only [List.flatMap_cons, List.length_append, flat_len hr, h0, List.length_cons, Nat.add_mul]
    omega
theorem flat_get {k : Nat} : ∀ {xs : List AV}, uni k xs = true → ∀ j (hj : j < xs.length) i, i < k → (xs.flatMap AV.cells)[j * k + i]? = xs[j].cells[i]?
  | [], _, j, hj, _, _ => absurd hj (by simp)
  | x :: r, h, j, hj, i, hi => by
    have h0 := uni_spec h 0 (by simp)
    have hr : uni k r = true := by unfold uni at h ⊢; simp only [List.all_cons, Bool.and_eq_true] at h; exact h.2
    simp only [List.getElem_cons_zero] at h0
    simp only [List.flatMap_cons]
    cases j with
    | zero => rw [List.getElem?_append_left (by omega)]; simp
    | succ j =>
      rw [List.getElem?_append_right (by rw [h0, Nat.succ_mul]; omega), h0]
      have : (j + 1) * k + i - k = j * k + i := by rw [Nat.succ_mul]; omega
      rw [this, flat_get hr j (by simpa using hj) i hi]
      simp
theorem uni_take {k n : Nat} {xs : List AV} (h : uni k xs = true) : uni k (xs.take n) = true := by
  unfold uni at h ⊢
  rw [List.all_eq_true] at h ⊢
  exact fun x hx => h x (List.mem_of_mem_take hx)
theorem uni_drop {k n : Nat} {xs : List AV} (h : uni k xs = true) : uni k (xs.drop n) = true := by
  unfold uni at h ⊢
  rw [List.all_eq_true] at h ⊢
  exact fun x hx => h x (List.mem_of_mem_drop hx)
theorem ListAt.take {xs : List AV} {n m : Nat} {a : Option Addr} {b o : Nat} {u : Nat → Value} (L : ListAt g xs n a b o u) : ListAt g (xs.take m) n a b o u :=
  ⟨fun h => L.ha (by simp at h; omega), fun j hj i hi => L.cell j (by simp at hj; omega) i hi, fun j hj i hi => by
    have e : (xs.take m)[j] = xs[j]'(by simp at hj; omega) := by simp
    rw [e] at hi
    have := L.rel j (by simp at hj; omega) i hi
    simpa only [e] using this⟩
theorem ListAt.flat {xs : List AV} {n : Nat} {a : Option Addr} {b o : Nat} {u : Nat → Value} (hu : uni n xs = true) (L : ListAt g xs n a b o u) :
    (∀ q, q < (xs.flatMap AV.cells).length → g.imm b (o + q) = some (u q)) ∧ ∀ q (h : q < (xs.flatMap AV.cells).length), VRel g (xs.flatMap AV.cells)[q] (u q) := by
  have key : ∀ q, q < (xs.flatMap AV.cells).length → 0 < n ∧ q / n < xs.length ∧ q % n < n ∧ q / n * n + q % n = q := fun q hq => by
    rw [flat_len hu] at hq
    have hn : 0 < n := by
      rcases Nat.eq_zero_or_pos n with h | h
      · subst h; simp at hq
      · exact h
    exact ⟨hn, (Nat.div_lt_iff_lt_mul hn).2 hq, Nat.mod_lt _ hn, Nat.div_add_mod' q n⟩
  refine ⟨fun q hq => ?_, fun q hq => ?_⟩
  · obtain ⟨h1, h2, h3, h4⟩ := key q hq
    have := L.cell (q / n) h2 (q % n) h3
    rwa [h4] at this
  · obtain ⟨h1, h2, h3, h4⟩ := key q hq
    have hc := uni_spec hu (q / n) h2
    have := L.rel (q / n) h2 (q % n) (by omega)
    rw [h4] at this
    have e := flat_get hu (q / n) h2 (q % n) h3
    rw [h4, List.getElem?_eq_getElem hq, List.getElem?_eq_getElem (by omega)] at e
    injection e with e
    rw [e]; exact this
theorem aarr_sound {t : TypeId} {x z : AV} (h : aarr P t x = some z) {vx : Value} (hx : VRel g x vx) : Yield P g z (Instr.arrayAt t vx) := by
  unfold aarr at h
  split at h
  · rename_i n e xs tk hu
    split at h
    · rename_i k hs
      split at h
      · rename_i hc
        injection h with h; subst h
        obtain ⟨a, c, rfl, _, _, _, _, hL⟩ := hx.list_eq
        obtain ⟨b, o, u, L⟩ := hL k hc.2.2
        obtain rfl := L.ha (by omega)
        obtain ⟨f1, f2⟩ := (L.take (m := n)).flat (uni_take hc.2.2)
        have hr : VRel g (.ref ((xs.take n).flatMap AV.cells) 0) (.pointer (some ⟨b, o + 0, none⟩)) := .ref _ 0 b o u f1 f2
        refine ⟨_, hr, fun w _ => ?_⟩
        have : ¬ xs.length < n := by omega
        simp [Instr.arrayAt, run_underlying hu, this]
      · cases h
    · cases h
  · cases h
theorem alen_sound {t ty : TypeId} {x z : AV} (h : alen P t x = some z) {vx : Value} (hx : VRel g x vx) : Yield P g z (Builtin.len_ #[t] ty #[vx]) := by
  unfold alen at h
  split at h
  · rename_i s hu
    injection h with h; subst h
    rw [hx.str_eq]
    exact yield_pure (.int _ _) fun w => run_len_string w t ty _ hu
  · rename_i e xs tk hu
    injection h with h; subst h
    obtain ⟨a, c, rfl, _⟩ := hx.list_eq
    exact yield_pure (.int _ _) fun w => by simp [Builtin.len_, run_underlying hu, goInt]
  · rename_i e id off n c hu
    injection h with h; subst h
    obtain ⟨_, b, o, _, _, _, _, rfl⟩ := hx.arr_eq
    exact yield_pure (.int _ _) fun w => by simp [Builtin.len_, run_underlying hu, goInt]
  · rename_i n e hu
    injection h with h; subst h
    exact yield_pure (.int _ _) fun w => by simp [Builtin.len_, run_underlying hu, goInt]
  · cases h
theorem quiet_v {x : AV} {s : Sem Value} (h : Yield P g x s) : ∃ v, VRel g x v ∧ ∀ w, Agree g w → (do let r ← s; pure (Next.value r) : Sem Next).run P w = .ok (.value v) w := by
  obtain ⟨v, hv, hr⟩ := h
  exact ⟨v, hv, fun w ha => by simp [Sem.run_bind, hr w ha]⟩
theorem OptRel.map {st : ASt} {a : Act} (r : StRel g st a) (o : Option Operand) : OptRel g (o.map (Slots.ev st.s)) (o.map a.eval) := by
  cases o with
  | none => trivial
  | some x => exact r.ev x
theorem aq_sound {o : Oper} {st : ASt} {x : AV} (h : aq P o.op st.s = some x) : AQuiet P o st x := by
  intro g a r
  unfold aq at h
  cases ho : o.op <;> simp only [ho, reduceCtorEq] at h
  case move y => injection h with h; subst h; exact ⟨_, r.ev y, fun w _ => by simp [execOp, ho]⟩
  case assign y => injection h with h; subst h; exact ⟨_, r.ev y, fun w _ => by simp [execOp, ho]⟩
  case pick c y z =>
    unfold apick at h
    split at h
    · rename_i t hc
      injection h with h; subst h
      have hcr := r.ev c
      rw [hc] at hcr
      cases t with
      | true => exact ⟨_, r.ev y, fun w _ => by simp [execOp, ho, hcr.bool_eq, asBool]⟩
      | false => exact ⟨_, r.ev z, fun w _ => by simp [execOp, ho, hcr.bool_eq, asBool]⟩
    · cases h
  case build t parts =>
    have := abuild_sound (g := g) (vparts := parts.map fun (i, x) => (i, a.eval x)) h (by simp) (fun i h h' => by simp; exact r.ev _)
    simpa [execOp, ho] using quiet_v this
  case load t y => simpa [execOp, ho] using quiet_v (aloadRef_sound h (r.ev y))
  case nilCheck y =>
    have hy := r.ev y
    unfold anilCheck at h
    split at h <;> try (cases h; done)
    · rename_i name u hc
      unfold methFn at h
      split at h
      · rename_i t v
        cases hm : methT P t name with
        | none => rw [hm] at h; cases h
        | some f =>
          rw [hm] at h
          injection h with h; subst h
          rw [hc] at hy
          cases hv : a.eval y <;> rw [hv] at hy <;> cases hy
          rename_i fa ca l2 r2 l1 r1
          refine ⟨.func (.method name) fa ca, .func _ _ _ _ _ (by assumption) (by assumption) (by assumption) (by assumption), fun w _ => ?_⟩
          have l1' : fa.size = 1 := by have : [AV.iface t v].length = fa.size := by assumption
                                       simpa using this.symm
          have h0 : VRel g (.iface t v) (fa[0]'(by omega)) := by
            have h00 : ∀ i (h : i < [AV.iface t v].length) (h' : i < fa.size), VRel g [AV.iface t v][i] fa[i] := by assumption
            exact h00 0 (by simp) (by omega)
          have e0 : fa[0]? = some (fa[0]'(by omega)) := Array.getElem?_eq_getElem (by omega)
          cases hx : fa[0]'(by omega) <;> rw [hx] at h0 <;> cases h0
          rw [hx] at e0
          simp [execOp, ho, hv, e0, run_nilAhead hm]
      · cases h
    · rename_i hc; injection h with h; subst h; rw [hc] at hy
      obtain ⟨_, b, _, e⟩ := hy.ptr_eq
      exact ⟨_, hy, fun w _ => by simp [execOp, ho, e]⟩
    · rename_i hc; injection h with h; subst h; rw [hc] at hy
      obtain ⟨b, o', u, e, _⟩ := hy.ref_eq
      exact ⟨_, hy, fun w _ => by simp [execOp, ho, e]⟩
    · rename_i f p q hc; injection h with h; subst h; rw [hc] at hy
      cases hv : a.eval y <;> rw [hv] at hy <;> cases hy
      rename_i f' c' _ _ _ _
      exact ⟨.func (.func f) f' c', .func _ _ _ _ _ (by assumption) (by assumption) (by assumption) (by assumption), fun w _ => by simp [execOp, ho, hv]⟩
    · rename_i hc; injection h with h; subst h; rw [hc] at hy
      cases hv : a.eval y <;> rw [hv] at hy <;> cases hy
      exact ⟨_, .iface _ _ _ (by assumption), fun w _ => by simp [execOp, ho, hv]⟩
  case binOp op t y z ty => simpa [execOp, ho] using quiet_v (abin_sound h y z (r.ev y) (r.ev z))
  case unOp op t y =>
    have hy := r.ev y
    unfold aun at h
    split at h
    · rename_i b hc; injection h with h; subst h; rw [hc] at hy
      exact ⟨_, .bool _, fun w _ => by simp [execOp, ho, hy.bool_eq, Op.unary]⟩
    · rename_i k n hc; injection h with h; subst h; rw [hc] at hy
      exact ⟨_, .int _ _, fun w _ => by simp [execOp, ho, hy.int_eq, Op.unary, Op.intArith]⟩
    · cases h
  case convert src dst y => simpa [execOp, ho] using quiet_v (aconv_sound h (r.ev y))
  case sliceToArrayPointer t y => simpa [execOp, ho] using quiet_v (aarr_sound h (r.ev y))
  case makeInterface t y =>
    unfold aiface at h
    split at h
    · cases h
    · rename_i d hni hu
      injection h with h; subst h
      refine ⟨.iface t (a.eval y), .iface t _ _ (r.ev y), fun w _ => ?_⟩
      cases d <;> simp [execOp, ho, Instr.makeInterface, run_underlying hu]
      exact hni _ rfl
    · cases h
  case makeFunc fn f c =>
    injection h with h; subst h
    exact ⟨.func fn (f.map a.eval) (c.map a.eval), .func _ _ _ _ _ (by simp) (by simp) (fun i h h' => by simpa using r.ev _) (fun i h h' => by simpa using r.ev _), fun w _ => by simp [execOp, ho, Instr.makeFunc]⟩
  case slice t y lo hi mx => simpa [execOp, ho] using quiet_v (aslice_sound h (r.ev y) (OptRel.map r lo) (OptRel.map r hi) (OptRel.map r mx))
  case fieldAddr t y f => simpa [execOp, ho] using quiet_v (afieldAt_sound h (r.ev y))
  case field t y f => simpa [execOp, ho] using quiet_v (afield_sound h (r.ev y))
  case indexAddr t y i => simpa [execOp, ho] using quiet_v (aidx_sound h (r.ev y) (r.ev i))
  case index t y i => simpa [execOp, ho] using quiet_v (aindex_sound h (r.ev y) (r.ev i))
  case extract y i =>
    have hy := r.ev y
    unfold aextract at h
    split at h
    · rename_i vs hc
      rw [hc] at hy
      obtain ⟨us, e, hcs⟩ := hy.tuple_cells
      obtain ⟨v, hv, hr⟩ := hcs.get? h
      have hv' : us[i]? = some v := by simpa using hv
      exact ⟨v, hr, fun w _ => by simp [execOp, ho, e, Instr.extract, hv']⟩
    · cases h
  case call c =>
    unfold acallQ at h
    split at h
    · rename_i t y hc ht ha
      have e1 : c.argTypes = #[t] := by rw [← Array.toArray_toList (xs := c.argTypes), ht]
      have e2 : c.args = #[y] := by rw [← Array.toArray_toList (xs := c.args), ha]
      have := quiet_v (alen_sound (ty := o.type) h (r.ev y))
      simpa [execOp, ho, resolve, hc, e1, e2, invoke, builtin] using this
    · rename_i y z hc ha
      have e2 : c.args = #[y, z] := by rw [← Array.toArray_toList (xs := c.args), ha]
      unfold amin at h
      have hy := r.ev y
      have hz := r.ev z
      split at h
      · rename_i k p k' q h1 h2
        rw [h1] at hy; rw [h2] at hz
        split at h
        · injection h with h; subst h
          exact ⟨_, .int _ _, fun w _ => by simp [execOp, ho, resolve, hc, e2, invoke, builtin, Builtin.min_, Builtin.min2, hy.int_eq, hz.int_eq]⟩
        · cases h
      · cases h
    · rename_i y z hc ha
      have e2 : c.args = #[y, z] := by rw [← Array.toArray_toList (xs := c.args), ha]
      unfold amax at h
      have hy := r.ev y
      have hz := r.ev z
      split at h
      · rename_i k p k' q h1 h2
        rw [h1] at hy; rw [h2] at hz
        split at h
        · injection h with h; subst h
          exact ⟨_, .int _ _, fun w _ => by simp [execOp, ho, resolve, hc, e2, invoke, builtin, Builtin.max_, Builtin.max2, hy.int_eq, hz.int_eq]⟩
        · cases h
      · cases h
    · cases h
end
end Go.Proofs.Ytajgeofhlgoifaa.V
