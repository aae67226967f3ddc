/- Regions, those too that draw their order; calls; functions. No program is named here. -/
import Derived.Test.YtajgeofhlgoifaaV15
import Derived.OrdersHeld
import Derived.Test.YtajgeofhlgoifaaRegion2
set_option linter.unusedVariables false
set_option linter.unusedSimpArgs false
namespace Go.Proofs.Ytajgeofhlgoifaa.V
open Go Go.RowKit

def ARun {P : Program} (E : Env P) (ops : Array Oper) (n : Nat) : List Oper → Slots → AHeap → (Slots → AHeap → Prop) → Prop
  | [], s, h, K => K s h
  | o :: r, s, h, K => wantedThen (guardB ops s o) (AStepE E o.op s h fun x h' => ARun E ops n r (Slots.put n s o.dst x) h' K) (ARun E ops n r (Slots.put n s o.dst (.tuple [])) h K)
theorem wantedThen_mono {b : AV} {y y' z z' : Prop} (h1 : y → y') (h2 : z → z') (h : wantedThen b y z) : wantedThen b y' z' := by
  unfold wantedThen at *
  split at h
  · split at h
    · rename_i hb; rw [if_pos hb]; exact h1 h
    · rename_i hb; rw [if_neg hb]; exact h2 h
  · exact h.elim
theorem arun_ops {P : Program} {E : Env P} {ops : Array Oper} {n : Nat} {K : Slots → AHeap → Prop} : ∀ {l : List Oper} {s : Slots} {h : AHeap}, ARun E ops n l s h K → AOps E ops l ⟨n, s, h⟩ (fun st => st.n = n ∧ K st.s st.h)
  | [], s, h, k => ⟨rfl, k⟩
  | o :: l, s, h, k => wantedThen_mono (fun k => (astepE_sound (o := o) (st := ⟨n, s, h⟩) k).mono fun x h' k' => arun_ops k') (fun k => arun_ops k) k
theorem awp_region' {P : Program} {E : Env P} {id : Nat} {l : List Oper} {Q : Post} {n : Nat} {s : Slots} {h : AHeap} (k : ARun E l.toArray n l s h fun s h => Q .normal ⟨n, s, h⟩) : AWP E (.region id l.toArray false) Q ⟨n, s, h⟩ :=
  AWP.mono (Q := fun e st => e = .normal ∧ st.n = n ∧ Q .normal ⟨n, st.s, st.h⟩) (fun m w0 g w a hC r S => wpIn_region_lit (aops_sound l _ _ (arun_ops k) m w0 g w a hC r S fun st g' a' w' l' r' S' q => ⟨st, g', l', r', S', rfl, q⟩)) (fun e st ⟨h1, h2, h3⟩ => by subst h1; subst h2; exact h3)

/-! A region that draws its order. -/
def aqS (P : Program) (op : Op) (s : Slots) (h : AHeap) : Option AV :=
  match op with
  | .slice t x lo hi mx => match Slots.ev s x with
    | .ptr id off => (ahSliceArr P t (.ptr id off) lo hi mx h).map (·.1)
    | y => aslice P t y (lo.map (Slots.ev s)) (hi.map (Slots.ev s)) (mx.map (Slots.ev s))
  | op => aq P op s
def bindQ (r : Option AV) (K : AV → Prop) : Prop :=
  match r with
  | some x => K x
  | none => False
def AAt (P : Program) (ops : Array Oper) (n : Nat) (i : Nat) (s : Slots) (h : AHeap) (K : Slots → AHeap → Prop) : Prop :=
  match ops[i]? with
  | none => False
  | some o => wantedThen (guardB ops s o) (AStep P o.op s h fun x h' => K (Slots.put n s o.dst x) h') (K (Slots.put n s o.dst (.tuple [])) h)
def AQAt (P : Program) (ops : Array Oper) (n : Nat) (i : Nat) (s : Slots) (h : AHeap) (K : Slots → Prop) : Prop :=
  match ops[i]? with
  | none => False
  | some o => wantedThen (guardB ops s o) (bindQ (aqS P o.op s h) fun x => K (Slots.put n s o.dst x)) (K (Slots.put n s o.dst (.tuple [])))
def ATree (P : Program) (ops : Array Oper) (n : Nat) : Reg.Tree → Slots → AHeap → (Slots → AHeap → Prop) → Prop
  | .done, s, h, K => K s h
  | .a i r, s, h, K => AAt P ops n i s h fun s h => ATree P ops n r s h K
  | .q i r, s, h, K => AQAt P ops n i s h fun s => ATree P ops n r s h K
  | .two i j r t, s, h, K => (AAt P ops n i s h fun s h => ATree P ops n r s h K) ∧ (AAt P ops n j s h fun s h => ATree P ops n t s h K)
  | .three i j k r t u, s, h, K => (AAt P ops n i s h fun s h => ATree P ops n r s h K) ∧ (AAt P ops n j s h fun s h => ATree P ops n t s h K) ∧ (AAt P ops n k s h fun s h => ATree P ops n u s h K)

section
variable {P : Program} {ops : Array Oper} {Q : Exit → Act → World → Prop}
theorem ahSliceArr_all {w0 w : World} {g : Ghost} {h : AHeap} {t : TypeId} {x z : AV} {lo hi mx : Option Operand} {h' : AHeap} (S : Sim w0 g h w) (e : ahSliceArr P t x lo hi mx h = some (z, h')) {vx : Value} (hx : VRel g x vx) (f : Operand → Value) :
    ∃ v, VRel g z v ∧ ∀ w', (Instr.sliceAt t vx (lo.map f) (hi.map f) (mx.map f)).run P w' = .ok v w' := by
  have e0 := e
  unfold ahSliceArr at e
  split at e
  · rename_i n el id hu
    split at e
    · rename_i k agg cs hs ha ho
      split at e
      · rename_i hc
        obtain ⟨hk, hn, hnk, hn2, hone⟩ := hc
        obtain ⟨hid, b, hb, rfl⟩ := hx.ptr_eq
        obtain ⟨v, w', g', hr, l, hv, S'⟩ := ahSliceArr_sound S e0 hx f
        have hn0 : ¬ n = 0 := by omega
        have hrun : ∀ w' : World, (Instr.sliceAt t (.pointer (some ⟨b, 0, none⟩)) none none none).run P w' = .ok (.slice (some ⟨b, 0, none⟩) n n) w' := fun w' => by
          simp [Instr.sliceAt, run_underlying hu, Instr.sureAddr, Instr.sliceBounds, sizeT_run hs, Sem.run_bind, hn0, Addr.add]
        have := hrun w
        simp only [Option.map_none] at hr
        rw [this] at hr
        injection hr with h1 h2
        subst h1
        injection e with e
        simp only [Prod.mk.injEq] at e
        obtain ⟨rfl, rfl⟩ := e
        obtain ⟨hun, hcc⟩ := chunk_cells agg k n cs (by omega) hone
        have hl := chunk_length agg k n cs
        have ho' := S.obj id _ ho
        rw [hb] at ho'
        obtain ⟨_, hbl, u, hu2⟩ := ho'
        have L : ListAt g (chunk agg k n cs) k (some ⟨b, 0, none⟩) b 0 u := by
          refine ⟨fun _ => rfl, fun j hj i hi => ?_, fun j hj i hi => ?_⟩
          · rw [Nat.zero_add]
            exact (hu2 (j * k + i) (by rw [← hnk]; exact jk_lt (by omega) hi)).1
          · have hik : i < k := by rw [← uni_spec hun j hj]; exact hi
            have hlt : j * k + i < cs.length := by rw [← hnk]; exact jk_lt (by omega) hik
            have := hcc j hj i hik
            rw [List.getElem?_eq_getElem hi, List.getElem?_eq_getElem hlt] at this
            injection this with this
            rw [this]; exact (hu2 _ hlt).2
        have V := VRel.of_listAt (t := .full) (c := n) hun L (by omega) (by unfold maxLen; omega) (fun h => by cases h) (by show n = _; omega)
        rw [hl] at V
        exact ⟨_, V, hrun⟩
      · cases e
    · cases e
  · cases e
theorem aqS_sound {w0 w : World} {g : Ghost} {o : Oper} {st : ASt} {x : AV} {a : Act} (h : aqS P o.op st.s st.h = some x) (r : StRel g st a) (S : Sim w0 g st.h w) :
    ∃ v, VRel g x v ∧ ∀ w', Agree g w' → (execOp a.eval o).run P w' = .ok (.value v) w' := by
  unfold aqS at h
  split at h
  · rename_i t y lo hi mx ho
    split at h
    · rename_i id off hy
      cases hl : ahSliceArr P t (.ptr id off) lo hi mx st.h with
      | none => rw [hl] at h; cases h
      | some p =>
        obtain ⟨z, h'⟩ := p
        rw [hl] at h
        injection h with h
        simp only at h
        subst h
        have hx := r.ev y
        rw [hy] at hx
        obtain ⟨v, hv, hr⟩ := ahSliceArr_all S hl hx a.eval
        exact ⟨v, hv, fun w' _ => by simp [execOp, ho, Sem.run_bind, hr w']⟩
    · exact aq_sound (by rw [ho]; simp only [aq]; exact h) g a r
  · exact aq_sound h g a r
theorem wpAnyH_mono {S S' : World → Prop} (hs : ∀ w, S' w → S w) : ∀ (fuel : Nat) (listed : Array Bool) (a : Act) (w : World), wpAnyH P .any ops Q S' fuel listed a w → wpAnyH P .any ops Q S fuel listed a w
  | 0, _, _, _, h => h
  | fuel + 1, _, _, _, h => ⟨h.1, fun i hi => wpOp_mono (fun a' w' h' => ⟨hs _ h'.1, wpAnyH_mono hs fuel _ a' w' h'.2⟩) (h.2 i hi)⟩
/-- One operation, whichever comes up. -/
theorem aat_sound {w0 : World} {n i m : Nat} {s : Slots} {h : AHeap} {g : Ghost} {w : World} {a : Act} {K : Slots → AHeap → Prop} {listed : Array Bool} (k : AAt P ops n i s h K) (r : StRel g ⟨n, s, h⟩ a) (S : Sim w0 g h w)
    (next : ∀ s g' a' w' h', g.le g' → StRel g' ⟨n, s, h'⟩ a' → Sim w0 g' h' w' → K s h' → wpAnyH P .any ops Q (Agree g') m listed a' w') :
    wpOp P ops Q i (fun a' w' => Agree g w' ∧ wpAnyH P .any ops Q (Agree g) m listed a' w') a w := by
  unfold AAt at k
  split at k
  · exact k.elim
  · rename_i o ho
    unfold wpOp
    simp only [ho]
    rcases wanted_of (st := ⟨n, s, h⟩) r k with ⟨hwt, hy⟩ | ⟨hwt, hno⟩
    · rw [if_pos hwt]
      refine .inl (astep_sound (o := o) (st := ⟨n, s, h⟩) hy w0 g w a r S _ Q fun v w' g' x h' l hv S' hk => ?_)
      have low : ∀ w2, Agree g' w2 → Agree g w2 := fun w2 h2 b o v e => h2 b o v (l.imm b o v e)
      exact ⟨low _ S'.agree, wpAnyH_mono low _ _ _ _ (next _ g' _ w' h' l ((r.mono l).put o.dst hv h') S' hk)⟩
    · rw [if_neg (by simp [hwt])]
      exact ⟨S.agree, next _ g _ w h (.refl g) (r.put o.dst (void_rel g) h) S hno⟩
theorem atree_sound {w0 : World} {n : Nat} {K : Slots → AHeap → Prop} (hsel : Region.noSelect ops = true) (hQ : ∀ d c a v w, Q (.panic c) (a.put d v) w → Q (.panic c) a w) :
    ∀ (t : Reg.Tree) (m : Nat) (listed : Array Bool) (s : Slots) (h : AHeap) (g : Ghost) (w : World) (a : Act), Reg.treeB ops t m listed = true → ATree P ops n t s h K → StRel g ⟨n, s, h⟩ a → Sim w0 g h w →
      (∀ s g' a' w' h', g.le g' → StRel g' ⟨n, s, h'⟩ a' → Sim w0 g' h' w' → K s h' → Q .normal a' w') → wpAnyH P .any ops Q (Agree g) m listed a w
  | .done, m, listed, s, h, g, w, a, hB, k, r, S, hn => by
    simp only [Reg.treeB, Bool.and_eq_true, beq_iff_eq] at hB
    exact wpAnyH_done (by simpa using hB.2) (hn s g a w h (.refl g) r S k) _
  | .a i t, 0, listed, s, h, g, w, a, hB, k, r, S, hn => by simp [Reg.treeB] at hB
  | .a i t, m + 1, listed, s, h, g, w, a, hB, k, r, S, hn => by
    simp only [Reg.treeB, Bool.and_eq_true, beq_iff_eq] at hB
    refine wpAnyH_all (rs := [i]) hB.1 (by simp) fun j hj => ?_
    obtain rfl : j = i := by simpa using hj
    exact aat_sound k r S fun s g' a' w' h' l r' S' k' => atree_sound hsel hQ t m _ s h' g' w' a' hB.2 k' r' S' fun s2 g2 a2 w2 h2 l2 => hn s2 g2 a2 w2 h2 (l.trans l2)
  | .q i t, 0, listed, s, h, g, w, a, hB, k, r, S, hn => by simp [Reg.treeB] at hB
  | .q i t, m + 1, listed, s, h, g, w, a, hB, k, r, S, hn => by
    simp only [Reg.treeB, Bool.and_eq_true] at hB
    unfold ATree AQAt at k
    split at k
    · exact k.elim
    · rename_i o ho
      rcases wanted_of (st := ⟨n, s, h⟩) r k with ⟨hwt, hy⟩ | ⟨hwt, hno⟩
      · unfold bindQ at hy
        split at hy
        · rename_i x hx
          obtain ⟨v, hv, hr⟩ := aqS_sound (o := o) (st := ⟨n, s, h⟩) hx r S
          exact wpAnyH_take ho hsel hB.1.2 hB.1.1 (fun c a' w' h' => hQ _ c a' _ w' h') (.inl ⟨hwt, hr⟩) S.agree (atree_sound hsel hQ t m _ _ h g w _ hB.2 hy (r.put o.dst hv h) S hn)
        · exact hy.elim
      · exact wpAnyH_take ho hsel hB.1.2 hB.1.1 (fun c a' w' h' => hQ _ c a' _ w' h') (.inr ⟨hwt, rfl⟩) S.agree (atree_sound hsel hQ t m _ _ h g w _ hB.2 hno (r.put o.dst (void_rel g) h) S hn)
  | .two i j t u, 0, listed, s, h, g, w, a, hB, k, r, S, hn => by simp [Reg.treeB] at hB
  | .two i j t u, m + 1, listed, s, h, g, w, a, hB, k, r, S, hn => by
    simp only [Reg.treeB, Bool.and_eq_true, beq_iff_eq] at hB
    refine wpAnyH_all (rs := [i, j]) hB.1.1 (by simp) fun q hq => ?_
    have hq : q = i ∨ q = j := by simpa using hq
    rcases hq with rfl | rfl
    · exact aat_sound k.1 r S fun s g' a' w' h' l r' S' k' => atree_sound hsel hQ t m _ s h' g' w' a' hB.1.2 k' r' S' fun s2 g2 a2 w2 h2 l2 => hn s2 g2 a2 w2 h2 (l.trans l2)
    · exact aat_sound k.2 r S fun s g' a' w' h' l r' S' k' => atree_sound hsel hQ u m _ s h' g' w' a' hB.2 k' r' S' fun s2 g2 a2 w2 h2 l2 => hn s2 g2 a2 w2 h2 (l.trans l2)
  | .three i j k1 t u v, 0, listed, s, h, g, w, a, hB, k, r, S, hn => by simp [Reg.treeB] at hB
  | .three i j k1 t u v, m + 1, listed, s, h, g, w, a, hB, k, r, S, hn => by
    simp only [Reg.treeB, Bool.and_eq_true, beq_iff_eq] at hB
    refine wpAnyH_all (rs := [i, j, k1]) hB.1.1.1 (by simp) fun q hq => ?_
    have hq : q = i ∨ q = j ∨ q = k1 := by simpa using hq
    rcases hq with rfl | rfl | rfl
    · exact aat_sound k.1 r S fun s g' a' w' h' l r' S' k' => atree_sound hsel hQ t m _ s h' g' w' a' hB.1.1.2 k' r' S' fun s2 g2 a2 w2 h2 l2 => hn s2 g2 a2 w2 h2 (l.trans l2)
    · exact aat_sound k.2.1 r S fun s g' a' w' h' l r' S' k' => atree_sound hsel hQ u m _ s h' g' w' a' hB.1.2 k' r' S' fun s2 g2 a2 w2 h2 l2 => hn s2 g2 a2 w2 h2 (l.trans l2)
    · exact aat_sound k.2.2 r S fun s g' a' w' h' l r' S' k' => atree_sound hsel hQ v m _ s h' g' w' a' hB.2 k' r' S' fun s2 g2 a2 w2 h2 l2 => hn s2 g2 a2 w2 h2 (l.trans l2)
end
theorem awp_draw {P : Program} {E : Env P} {id : Nat} {l : List Oper} {Q : Post} {n : Nat} {s : Slots} {h : AHeap} (t : Reg.Tree) (hm : P.follows .mixedOrders = true)
    (hB : (Region.noSelect l.toArray && Reg.treeB l.toArray t l.length (Array.replicate l.length false)) = true)
    (k : ATree P l.toArray n t s h fun s h => Q .normal ⟨n, s, h⟩) (hro : E.ro = none := by rfl) : AWP E (.region id l.toArray true) Q ⟨n, s, h⟩ := by
  have key : AWP E (.region id l.toArray true) (fun e st => e = .normal ∧ st.n = n ∧ Q .normal ⟨n, st.s, st.h⟩) ⟨n, s, h⟩ := fun m w0 g w a hC r S => by
    simp only [Bool.and_eq_true] at hB
    rw [hro]
    refine wpIn_wide.2 (wp_region_held (S := Agree g) hm ?_)
    have := atree_sound (w0 := w0) (Q := Stands w0 g (fun e st => e = .normal ∧ st.n = n ∧ Q .normal ⟨n, st.s, st.h⟩)) hB.1 (fun d c a v w hh => by obtain ⟨st, g', l, r, S, h1, _⟩ := hh; cases h1) t _ _ s h g w.drew a hB.2 k r S.drew
      (fun s g' a' w' h' l' r' S' k' => ⟨⟨n, s, h'⟩, g', l', r', S', rfl, rfl, k'⟩)
    simpa using this
  exact AWP.mono key fun e st ⟨h1, h2, h3⟩ => by subst h1; subst h2; exact h3

/-! A function. -/
/-- The parameters' slots. -/
def params : Nat → List AV → Slots
  | _, [] => []
  | i, x :: r => (i, x) :: params (i + 1) r
theorem params_get : ∀ (l : List AV) (i t : Nat), Slots.get (params i l) t = if i ≤ t ∧ t < i + l.length then l.getD (t - i) .undef else .undef
  | [], i, t => by simp [params, Slots.get]
  | x :: r, i, t => by
    simp only [params, Slots.get, List.length_cons]
    split
    · rename_i e; subst e; simp
    · rename_i e
      rw [params_get r (i + 1) t]
      by_cases h1 : i + 1 ≤ t ∧ t < i + 1 + r.length
      · rw [if_pos h1, if_pos (by omega)]
        have : t - i = (t - (i + 1)) + 1 := by omega
        rw [this]; simp
      · rw [if_neg h1, if_neg (by omega)]
/-- What a function hands back: the slots of its results; a variable's content. -/
def aresult (P : Program) (r : ResultVar) (s : Slots) (h : AHeap) : Option AV :=
  match r with
  | .tmp t => some (Slots.get s t)
  | .cell t ty => (aload P ty (Slots.get s t) h).map (·.1)
def aresultsL (P : Program) (rs : List ResultVar) (s : Slots) (h : AHeap) : Option (List AV) :=
  match rs with
  | [] => some []
  | r :: rs => match aresult P r s h, aresultsL P rs s h with
    | some x, some l => some (x :: l)
    | _, _ => none
def aresults (P : Program) (rs : Array ResultVar) (s : Slots) (h : AHeap) : Option AV :=
  match aresultsL P rs.toList s h with
  | some [x] => some x
  | some l => some (.tuple l)
  | none => none
/-- The end of a body: what is handed back; new objects behind the old ones are forgotten. -/
def BodyPost (P : Program) (rs : Array ResultVar) (h0 : AHeap) (R : AV → AHeap → Prop) : Post := fun e st =>
  (e = .normal ∨ e = .ret) ∧ ∃ y, aresults P rs st.s st.h = some y ∧ ∃ x, (x = y ∨ x = y.strip) ∧ ∃ h' k, st.h = h' ++ k ∧ h0.length ≤ h'.length ∧ (k = [] ∨ ((∀ (id : Nat) o, h'[id]? = some o → h0[id]? = some o ∨ OBel h'.length o) ∧ Bel h'.length x)) ∧ R x h'

section
variable {P : Program} {w0 w : World} {g : Ghost}
def resultS (tmps : Array Value) (r : ResultVar) : Sem Value :=
  match r with
  | .tmp t => pure (tmps.getD t Go.undef)
  | .cell p t => do loadVar t (← asAddr (tmps.getD p Go.undef))
theorem results_eq (fn : Func) (tmps : Array Value) : results fn tmps = (do let vs ← fn.results.mapM (resultS tmps); pure (if h : vs.size = 1 then vs[0] else .tuple vs) : Sem Value) := by
  unfold results
  congr 1
theorem load_as {ty : TypeId} {v y : Value} (h : (Instr.loadAt ty y).run P w = .ok v w) : (do loadVar ty (← asAddr y) : Sem Value).run P w = .ok v w := by
  cases y <;> simp [Instr.loadAt, Instr.sureAddr, stuck, Sem.run_bind, Sem.run, Result.andThen] at h
  rename_i ad
  cases ad with
  | none => simp at h
  | some ad => simpa [asAddr, Sem.run_bind] using h
theorem aload_run {ty : TypeId} {x y : AV} {h h' : AHeap} (e : aload P ty x h = some (y, h')) {vx : Value} (hx : VRel g x vx) (S : Sim w0 g h w) : ∃ v, VRel g y v ∧ (Instr.loadAt ty vx).run P w = .ok v w := by
  unfold aload at e
  split at e
  · rename_i cs off
    cases hp : partA P ty cs off with
    | none => rw [hp] at e; cases e
    | some z =>
      rw [hp] at e
      simp only [Option.map_some, Option.some.injEq, Prod.mk.injEq] at e
      obtain ⟨rfl, rfl⟩ := e
      obtain ⟨v, hv, hr⟩ := aloadRef_sound (P := P) (g := g) (x := .ref cs off) (t := ty) (z := z) (by simpa [aloadRef] using hp) hx
      exact ⟨v, hv, hr w S.agree⟩
  · obtain ⟨rfl, id, off, _, v, hv, hr⟩ := ahLoad_run S e hx
    exact ⟨v, hv, hr w S.agree (fun _ _ => rfl)⟩
theorem aresult_run {r : ResultVar} {st : ASt} {a : Act} {x : AV} (e : aresult P r st.s st.h = some x) (rel : StRel g st a) (S : Sim w0 g st.h w) : ∃ v, VRel g x v ∧ (resultS a.tmps r).run P w = .ok v w := by
  cases r with
  | tmp t =>
    simp only [aresult, Option.some.injEq] at e
    subst e
    exact ⟨_, rel.slots t, rfl⟩
  | cell t ty =>
    simp only [aresult] at e
    cases hl : aload P ty (Slots.get st.s t) st.h with
    | none => rw [hl] at e; cases e
    | some p =>
      obtain ⟨y, h'⟩ := p
      rw [hl] at e
      simp only [Option.map_some, Option.some.injEq] at e
      subst e
      obtain ⟨v, hv, hr⟩ := aload_run hl (rel.slots t) S
      exact ⟨v, hv, load_as hr⟩
theorem aresultsL_run {st : ASt} {a : Act} (rel : StRel g st a) (S : Sim w0 g st.h w) : ∀ {rs : List ResultVar} {xs : List AV}, aresultsL P rs st.s st.h = some xs → ∃ vs, CellsRel g xs vs ∧ (rs.mapM (resultS a.tmps)).run P w = .ok vs w
  | [], xs, e => by simp [aresultsL] at e; subst e; exact ⟨[], ⟨rfl, fun i h => absurd h (by simp)⟩, by simp⟩
  | r :: rs, xs, e => by
    unfold aresultsL at e
    split at e
    · rename_i x l h1 h2
      injection e with e; subst e
      obtain ⟨v, hv, hr⟩ := aresult_run h1 rel S
      obtain ⟨vs, hvs, hrs⟩ := aresultsL_run rel S h2
      refine ⟨v :: vs, ⟨by simp [hvs.1], fun i p q => ?_⟩, ?_⟩
      · cases i with
        | zero => exact hv
        | succ i => exact hvs.2 i (by simpa using p) (by simpa using q)
      · simp only [List.mapM_cons, Sem.run_bind, hr, Result.andThen_ok, hrs, Sem.run_pure]
    · cases e
theorem aresults_run {fn : Func} {st : ASt} {a : Act} {x : AV} (e : aresults P fn.results st.s st.h = some x) (rel : StRel g st a) (S : Sim w0 g st.h w) : ∃ v, VRel g x v ∧ (results fn a.tmps).run P w = .ok v w := by
  have run : ∀ vs : List Value, (fn.results.toList.mapM (resultS a.tmps)).run P w = .ok vs w → (results fn a.tmps).run P w = .ok (if h : vs.toArray.size = 1 then vs.toArray[0] else .tuple vs.toArray) w := fun vs h => by
    rw [results_eq, Array.mapM_eq_mapM_toList]
    simp [Sem.run_bind, h]
  unfold aresults at e
  split at e
  · rename_i y hl
    injection e with e; subst e
    obtain ⟨vs, hvs, hr⟩ := aresultsL_run rel S hl
    have hlen : vs.length = 1 := hvs.1.symm
    obtain ⟨v, rfl⟩ := List.length_eq_one_iff.1 hlen
    exact ⟨v, hvs.2 0 (by simp) (by simp), by have := run _ hr; simpa using this⟩
  · rename_i l hne hl
    injection e with e; subst e
    obtain ⟨vs, hvs, hr⟩ := aresultsL_run rel S hl
    have hlen : vs.length ≠ 1 := fun h1 => by
      have : l.length = 1 := by rw [hvs.1, h1]
      obtain ⟨y, rfl⟩ := List.length_eq_one_iff.1 this
      exact hne y rfl
    refine ⟨.tuple vs.toArray, .tuple _ _ (by simpa using hvs.1) (fun i p q => by simpa using hvs.2 i p (by simpa using q)), ?_⟩
    rw [run _ hr, dif_neg (by simpa using hlen)]
  · cases e
/-- The marks are come to, one by one. -/
theorem leaves_marks {fn : Func} {tmps : Array Value} {R : Ending → World → Prop} {w0 : World} {h : AHeap} {b0 : Nat} : ∀ (Ds : List Nat) (g : Ghost) (w : World), Sim w0 g h w → w0.heap.size ≤ b0 → Ds.Nodup → (∀ D ∈ Ds, b0 ≤ D ∧ g.pin D = some (.deferred (some []))) →
    (∀ (pin : Nat → Option Obj) (w' : World), (∀ b o, g.pin b = some o → b ∉ Ds → pin b = some o) → Sim w0 (g.hold pin g.b0) h w' → ∃ v, (results fn tmps).run P w' = .ok v w' ∧ R (.returned v) w') →
    LeavesInM Fence.wide 3 P fn tmps R (Ds.map markD) .returning w
  | [], g, w, S, hb, hn, hD, k => by
    obtain ⟨v, h1, h2⟩ := k g.pin w (fun b o e _ => e) S
    exact ⟨v, h1, h2⟩
  | D :: Ds, g, w, S, hb, hn, hD, k => by
    obtain ⟨hge, hpin⟩ := hD D (by simp)
    obtain ⟨⟨hheap, hcell⟩, _⟩ := S.pin D _ hpin
    have hlt := S.pin_lt hpin
    obtain ⟨hnD, hnDs⟩ := List.nodup_cons.1 hn
    have noown : ∀ b o', g.pin b = some o' → ∀ id o, h[id]? = some o → o ≠ .dead → (g.at_ id).block ≠ some b := fun b o' e id o ho hd e2 => by
      rw [S.free id o b ho hd e2] at e; cases e
    have noimm : ∀ o, g.imm D o = none := fun o => by
      cases e : g.imm D o with
      | none => rfl
      | some v =>
        have := S.imm D o v e
        unfold World.cell? at this
        rw [hheap] at this
        cases this
    have S' : Sim w0 (g.hold (fun b => if b = D then none else g.pin b) g.b0) h (w.putObj D (.deferred none)) := S.hold (some D) (by simp) rfl rfl rfl (fun k hk hne => World.putObj_heap_other (fun e => hne (by rw [e]))) (fun b e => by
        injection e with e; subst e
        exact ⟨by omega, noimm, noown _ _ hpin⟩) (fun b o e => by
        split at e
        · cases e
        · rename_i hne
          exact ⟨⟨⟨by rw [World.putObj_heap_other hne]; exact (S.pin b o e).1.1, (S.pin b o e).1.2⟩, (S.pin b o e).2⟩, noown _ _ e⟩) (by simpa using S.b0)
    refine ⟨by simp, .inl ⟨D, _, rfl, run_takeDeferred hheap, ?_⟩⟩
    refine leaves_marks Ds _ _ S' hb hnDs (fun D' hD' => ?_) (fun pin w' hp S2 => ?_)
    · obtain ⟨h1, h2⟩ := hD D' (List.mem_cons_of_mem _ hD')
      refine ⟨h1, ?_⟩
      show (if D' = D then none else g.pin D') = _
      rw [if_neg (fun e => hnD (by rw [← e]; exact hD'))]; exact h2
    · refine k pin w' (fun b o e hne => hp b o ?_ (fun hm => hne (List.mem_cons_of_mem _ hm))) S2
      show (if b = D then none else g.pin b) = _
      rw [if_neg (fun e => hne (by rw [e]; simp))]; exact e
theorem acallsE_of_awp {E : Env P} {f : FuncId} {fn : Func} {c : Code} {xs : List AV} {h : AHeap} {R : AV → AHeap → Prop} (hro : E.ro = none) (hf : P.funcs[f]? = some fn) (hb : fn.body = some c) (hn : xs.length ≤ fn.ntmps)
    (k : AWP E c (BodyPost P fn.results h R) ⟨fn.ntmps, params 0 xs, h⟩) : ACallsE E f xs h R := fun w0 g w vs hC hv S => by
  have hsz : xs.length = vs.size := by simpa using hv.1
  have S0 : Sim w0 (g.hold g.pin w.heap.size) h w := S.hold none (Nat.le_refl _) rfl rfl rfl (fun _ _ _ => rfl) (fun b e => by cases e) (fun b o e => ⟨S.pin b o e, fun id o' ho hd e2 => by rw [S.free id o' b ho hd e2] at e; cases e⟩) (Nat.le_refl _)
  have k' := k 3 w0 (g.hold g.pin w.heap.size) w { tmps := vs ++ Array.replicate (fn.ntmps - vs.size) undef, defers := [] } (E.hold _ hC)
  rw [hro] at k'
  refine callsIn_wide.1 (callsIn_of_wp_marks (n := 3) hf hb trivial (wpIn_mono (k' ⟨Marks.nil _, by simp; omega, fun t => ?_⟩ S0) ?_))
  · rw [params_get]
    by_cases ht : t < xs.length
    · rw [if_pos (by omega)]
      have := (hv.2 t ht (by simp; omega)).hold (pin := g.pin) (b0 := w.heap.size)
      simpa [List.getD_eq_getElem?_getD, ht, Array.getD_eq_getD_getElem?, Array.getElem?_append, show t < vs.size by omega] using this
    · rw [if_neg (by omega)]; exact .undef _
  · rintro e a' w' ⟨st, g', l, r', S', he, y, hy, x, hxy, h', q, hst, hle, hcut, hR⟩
    obtain ⟨Ds, hDs, hnd, hD⟩ := r'.defers
    have fin : LeavesInM (RF none) 3 P fn a'.tmps (fun e w' => ∃ r v h' g', e = .returned v ∧ g.le g' ∧ VRel g' r v ∧ Sim w0 g' h' w' ∧ R r h') a'.defers .returning w' := by
      rw [hDs]
      refine leaves_marks (b0 := w.heap.size) Ds g' w' S' S.below.size hnd (fun D hd => by
        obtain ⟨h1, h2⟩ := hD D hd
        rw [l.b0] at h1
        exact ⟨h1, h2⟩) ?_
      intro pin w2 hp S2
      have rr : StRel (g'.hold pin g'.b0) st { a' with defers := [] } := ⟨Marks.nil _, r'.size, fun t => (r'.slots t).hold⟩
      obtain ⟨v, hv, hr⟩ := aresults_run hy rr S2
      have hv' : VRel (g'.hold pin g.b0) x v := by
        rcases hxy with rfl | rfl
        · exact hv.hold (g := g'.hold pin g'.b0)
        · exact hv.strip.hold (g := g'.hold pin g'.b0)
      have S3 : Sim w0 (g'.hold pin g.b0) st.h w2 := S2.hold (g := g'.hold pin g'.b0) none (Nat.le_refl _) rfl rfl rfl (fun _ _ _ => rfl) (fun b e => by cases e) (fun b o e => ⟨S2.pin b o e, fun id o' ho hd e2 => by
        have := S2.free id o' b ho hd e2
        have e' : (g'.hold pin g'.b0).pin b = some o := e
        rw [this] at e'; cases e'⟩) (by
          have h1 : w.heap.size ≤ w2.heap.size := by
            have h2 : g'.b0 ≤ w2.heap.size := S2.b0
            have e : g'.b0 = w.heap.size := l.b0
            omega
          exact Nat.le_trans S.b0 h1)
      have hpin : ∀ b o, g.pin b = some o → pin b = some o := fun b o e => hp b o (l.pin b o e) fun hm => by
        have := (hD b hm).1
        rw [l.b0] at this
        have h2 : b < w.heap.size := S.pin_lt e
        have h3 : w.heap.size ≤ b := this
        omega
      have lg : g.le (g'.hold pin g.b0) := ⟨l.n, l.at_, l.imm, hpin, rfl⟩
      refine ⟨v, hr, ?_⟩
      rcases hcut with rfl | ⟨hob, hbel⟩
      · rw [List.append_nil] at hst
        subst hst
        exact ⟨x, v, st.h, _, rfl, lg, hv', S3, hR⟩
      · rw [hst] at S3
        refine ⟨x, v, h', (g'.hold pin g.b0).cut h'.length, rfl, ⟨by rw [← S.n]; exact hle, l.at_, l.imm, hpin, rfl⟩, hv'.cut hbel, S3.cut fun id o ho => ?_, hR⟩
        rcases hob id o ho with h1 | h1
        · have := (S.obj id o h1).bel
          have hm : ∀ {n m : Nat} {o : AObj}, n ≤ m → OBel n o → OBel m o := fun {n m o} hnm ho => by
            cases o with
            | dead => trivial
            | tail e k => trivial
            | cells cs => exact fun i hi => (ho i hi).mono hnm
            | fixed cs => exact fun i hi => (ho i hi).mono hnm
            | map es c => exact fun i hi => ⟨(ho i hi).1.mono hnm, (ho i hi).2.mono hnm⟩
            | rmap es c => exact fun i hi => ⟨(ho i hi).1.mono hnm, (ho i hi).2.mono hnm⟩
            | iter m s1 l1 q => exact Nat.lt_of_lt_of_le ho hnm
            | tab c vs => trivial
          exact hm (by rw [← S.n]; exact hle) this
        · exact h1
    rcases he with rfl | rfl
    · exact fin
    · exact fin
theorem acalls_of_awp {f : FuncId} {fn : Func} {c : Code} {xs : List AV} {h : AHeap} {R : AV → AHeap → Prop} (hf : P.funcs[f]? = some fn) (hb : fn.body = some c) (hn : xs.length ≤ fn.ntmps)
    (k : AWP (E0 P) c (BodyPost P fn.results h R) ⟨fn.ntmps, params 0 xs, h⟩) : ACalls P f xs h R := fun w0 g w vs hv S => acallsE_of_awp rfl hf hb hn k w0 g w vs trivial hv S
/-- A body's end: what is handed back; the heap is as it was. -/
theorem body_pure {rs : Array ResultVar} {h0 : AHeap} {R : AV → AHeap → Prop} {e : Exit} {n : Nat} {s : Slots} {k : AHeap} {x y : AV} (he : e = .normal ∨ e = .ret) (hx : aresults P rs s (h0 ++ k) = some y) (hy : y.strip = x) (hb : Bel h0.length x) (hR : R x h0) :
    BodyPost P rs h0 R e ⟨n, s, h0 ++ k⟩ := ⟨he, y, hx, x, .inr hy.symm, h0, k, rfl, Nat.le_refl _, .inr ⟨fun _ _ h => .inl h, hb⟩, hR⟩
theorem body_pure0 {rs : Array ResultVar} {h0 : AHeap} {R : AV → AHeap → Prop} {e : Exit} {n : Nat} {s : Slots} {x y : AV} (he : e = .normal ∨ e = .ret) (hx : aresults P rs s h0 = some y) (hy : y.strip = x) (hb : Bel h0.length x) (hR : R x h0) :
    BodyPost P rs h0 R e ⟨n, s, h0⟩ := ⟨he, y, hx, x, .inr hy.symm, h0, [], (List.append_nil _).symm, Nat.le_refl _, .inr ⟨fun _ _ h => .inl h, hb⟩, hR⟩
theorem ACalls.stripped {f : FuncId} {xs : List AV} {h : AHeap} {R : AV → AHeap → Prop} (c : ACalls P f (xs.map AV.strip) h R) : ACalls P f xs h R := fun w0 g w vs hv S =>
  c w0 g w vs ⟨by simpa using hv.1, fun i p q => by simpa using (hv.2 i (by simpa using p) q).strip⟩ S
end
end Go.Proofs.Ytajgeofhlgoifaa.V
