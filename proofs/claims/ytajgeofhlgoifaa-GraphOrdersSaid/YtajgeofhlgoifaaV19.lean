/- Loops over functions. No program is named here. -/
import Derived.Test.YtajgeofhlgoifaaV18
set_option linter.unusedVariables false
set_option linter.unusedSimpArgs false
namespace Go.Proofs.Ytajgeofhlgoifaa.V
open Go Go.RowKit

/-- A round's slots: the caller's, with yield's arguments in the loop's parameters. -/
def putAll (n : Nat) : Slots → List Nat → List AV → Slots
  | s, p :: ps, x :: xs => putAll n (Slots.put n s (some p) x) ps xs
  | s, _, _ => s
@[simp] theorem putAll_nil {n : Nat} {s : Slots} {xs : List AV} : putAll n s [] xs = s := by cases xs <;> rfl
@[simp] theorem putAll_cons {n p : Nat} {s : Slots} {ps : List Nat} {x : AV} {xs : List AV} : putAll n s (p :: ps) (x :: xs) = putAll n (Slots.put n s (some p) x) ps xs := rfl
section
variable {P : Program}
/-- In a round. -/
def ER (P : Program) (l : Nat) : Env P := ⟨some l, fun _ => True, fun _ _ => trivial, fun _ _ => trivial, fun _ _ _ _ => False, fun h => h.elim⟩
def LoopIs (n : Nat) (s : Slots) (ps : List Nat) (assign body : Code) (l : Nat) (g : Ghost) : Prop :=
  ∃ rec : Loop, g.pin l = some (.loop rec) ∧ rec.state = .ready ∧ rec.pending = none ∧ rec.params = ps.toArray ∧ rec.assign = assign ∧ rec.body = body ∧ rec.tmps.size = n ∧ ∀ t, VRel g (Slots.get s t) (rec.tmps.getD t Go.undef)
/-- What a round comes to: the loop's own code, in the caller's state. -/
def Round (P : Program) (n : Nat) (s : Slots) (ps : List Nat) (assign body : Code) (l : Nat) (xs : List AV) (h : AHeap) (K : AV → AHeap → Prop) : Prop :=
  xs.length = ps.length ∧ AWP (ER P l) assign (Post.then (fun s1 => AWP (ER P l) body (Post.then (fun s2 => K (.bool true) s2.h) (fun _ _ => False)) s1) (fun _ _ => False)) ⟨n, putAll n s ps xs, h⟩
theorem foldl_rel {g : Ghost} {n : Nat} {h : AHeap} : ∀ (ps : List Nat) (xs : List AV) (vs : List Value) (s : Slots) (tmps : Array Value), ps.length = xs.length → CellsRel g xs vs → StRel g ⟨n, s, h⟩ { tmps := tmps, defers := [] } →
    StRel g ⟨n, putAll n s ps xs, h⟩ { tmps := (ps.zip vs).foldl (fun tmps p => tmps.setIfInBounds p.1 p.2) tmps, defers := [] }
  | [], xs, vs, s, tmps, hl, hr, r => by simpa using r
  | p :: ps, [], vs, s, tmps, hl, hr, r => by simp at hl
  | p :: ps, x :: xs, [], s, tmps, hl, hr, r => by have := hr.1; simp at this
  | p :: ps, x :: xs, v :: vs, s, tmps, hl, hr, r => by
    simp only [List.zip_cons_cons, List.foldl_cons, putAll_cons]
    refine foldl_rel ps xs vs _ _ (by simpa using hl) ⟨by simpa using hr.1, fun i a b => by have := hr.2 (i + 1) (by simp; omega) (by simp; omega); simpa using this⟩ ?_
    exact r.put (some p) (by have := hr.2 0 (by simp) (by simp); simpa using this) h
theorem round_sound {n : Nat} {s : Slots} {ps : List Nat} {assign body : Code} {l : Nat} {xs : List AV} {h : AHeap} {K : AV → AHeap → Prop} (k : Round P n s ps assign body l xs h K) (m : Nat) (w0 : World) (g : Ghost) (w : World) (vs : Array Value)
    (hC : LoopIs n s ps assign body l g) (hv : ValsRel g xs vs) (S : Sim w0 g h w) : YieldAt (RF none) m P l vs w fun e w' => ∃ r v h' g', e = .returned v ∧ g.le g' ∧ VRel g' r v ∧ Sim w0 g' h' w' ∧ K r h' := by
  obtain ⟨rec, hpin, hready, hpend, hps, has, hbo, hsz, hslots⟩ := hC
  obtain ⟨hlen, k⟩ := k
  have hl := (S.pin l _ hpin).1.1
  have hvl : vs.size = ps.length := by have := hv.1; simp at this; omega
  have hy := run_yield (P := P) (args := vs) hl (by rw [hps]; simpa using hvl)
  refine ⟨rec.fn, _, rec.assign, rec.body, hy, roundIn_of_wpIn trivial ?_⟩
  have r0 : StRel g ⟨n, putAll n s ps xs, h⟩ { tmps := (rec.params.zip vs).foldl (fun tmps (t, a) => tmps.setIfInBounds t a) rec.tmps, defers := [] } := by
    have := foldl_rel (g := g) (n := n) (h := h) ps xs vs.toList s rec.tmps (by omega) hv ⟨Marks.nil g, hsz, hslots⟩
    rw [hps]
    have e : (ps.toArray.zip vs).foldl (fun tmps (t, a) => tmps.setIfInBounds t a) rec.tmps = (ps.zip vs.toList).foldl (fun tmps p => tmps.setIfInBounds p.1 p.2) rec.tmps := by
      rw [← Array.foldl_toList]; simp [Array.toList_zip]
    rw [e]; exact this
  rw [has]
  refine wpIn_mono (k m w0 g w _ trivial r0 S) ?_
  rintro e a1 w1 ⟨s1, g1, l1, r1, S1, q⟩
  cases e with
  | normal =>
    have hp1 := l1.pin _ _ hpin
    have hl1 := (S1.pin l _ hp1).1.1
    refine ⟨_, run_beginRound hl1 hready, ?_⟩
    have noown : ∀ {g : Ghost} {h : AHeap} {w : World} (S : Sim w0 g h w) b o', g.pin b = some o' → ∀ id o, h[id]? = some o → o ≠ .dead → (g.at_ id).block ≠ some b := fun S b o' e id o ho hd e2 => by
      rw [S.free id o b ho hd e2] at e; cases e
    have noimm : ∀ {g : Ghost} {h : AHeap} {w : World} (S : Sim w0 g h w) (r : Loop), g.pin l = some (.loop r) → ∀ o, g.imm l o = none := fun {g h w} S r e o => by
      cases e2 : g.imm l o with
      | none => rfl
      | some v =>
        have := S.imm l o v e2
        unfold World.cell? at this
        rw [(S.pin l _ e).1.1] at this
        cases this
    obtain ⟨⟨hheap1, _⟩, hbase⟩ := S1.pin l _ hp1
    have hlt1 := S1.pin_lt hp1
    let busy : Loop := { rec with state := .busy }
    let gb := g1.hold (fun b => if b = l then some (.loop busy) else g1.pin b) g1.b0
    have Sb : Sim w0 gb s1.h (w1.putObj l (.loop busy)) := S1.hold (some l) (by simp) rfl rfl rfl (fun k hk hne => World.putObj_heap_other (fun e => hne (by rw [e]))) (fun b e => by
        injection e with e; subst e
        exact ⟨hbase, noimm S1 rec hp1, noown S1 _ _ hp1⟩) (fun b o e => by
        split at e
        · rename_i hb; subst hb; injection e with e; subst e
          exact ⟨⟨⟨World.putObj_heap_same hlt1, rfl⟩, hbase⟩, noown S1 _ _ hp1⟩
        · rename_i hne
          exact ⟨⟨⟨by rw [World.putObj_heap_other hne]; exact (S1.pin b o e).1.1, (S1.pin b o e).1.2⟩, (S1.pin b o e).2⟩, noown S1 _ _ e⟩) (by simpa using S1.b0)
    have rb : StRel gb s1 a1 := ⟨by
        obtain ⟨Ds, h1, h2, h3⟩ := r1.defers
        refine ⟨Ds, h1, h2, fun D hD => ⟨(h3 D hD).1, ?_⟩⟩
        show (if D = l then _ else g1.pin D) = _
        rw [if_neg (fun e => by have := (h3 D hD).2; subst e; rw [hp1] at this; cases this)]
        exact (h3 D hD).2, r1.size, fun t => (r1.slots t).hold⟩
    have q' := q m w0 gb (w1.putObj l (.loop busy)) a1 trivial rb Sb
    rw [← hbo] at q'
    refine wpIn_mono q' ?_
    rintro e a2 w3 ⟨s2, g2, l2, r2, S2, q2⟩
    cases e with
    | normal =>
      have hp2 : g2.pin l = some (.loop busy) := l2.pin l _ (by show (if l = l then _ else _) = _; rw [if_pos rfl])
      obtain ⟨⟨hheap2, _⟩, _⟩ := S2.pin l _ hp2
      have hlt2 := S2.pin_lt hp2
      have hend := run_endRound (P := P) none hheap2
      have hrec : ({ busy with state := .ready, pending := none } : Loop) = rec := by
        show ({ rec with state := .ready, pending := none } : Loop) = rec
        rw [← hready, ← hpend]
      simp only [Option.isNone_none, if_true] at hend
      rw [hrec] at hend
      refine ⟨_, _, hend, .bool true, _, s2.h, g2.hold (fun b => if b = l then some (.loop rec) else g2.pin b) g2.b0, rfl, ⟨?_, ?_, ?_, ?_, ?_⟩, .bool true, ?_, q2⟩
      · exact Nat.le_trans l1.n l2.n
      · exact fun i hi => (l2.at_ i (Nat.lt_of_lt_of_le hi l1.n)).trans (l1.at_ i hi)
      · exact fun b o v e => l2.imm b o v (l1.imm b o v e)
      · intro b o e
        show (if b = l then _ else g2.pin b) = _
        split
        · rename_i hb; subst hb; rw [hpin] at e; exact e
        · rename_i hb
          refine l2.pin b o ?_
          show (if b = l then _ else g1.pin b) = _
          rw [if_neg hb]; exact l1.pin b o e
      · exact l2.b0.trans l1.b0
      · exact S2.hold (some l) (by simp) rfl rfl rfl (fun k hk hne => World.putObj_heap_other (fun e => hne (by rw [e]))) (fun b e => by
          injection e with e; subst e
          exact ⟨hbase, noimm S2 busy hp2, noown S2 _ _ hp2⟩) (fun b o e => by
          split at e
          · rename_i hb; subst hb; injection e with e; subst e
            exact ⟨⟨⟨World.putObj_heap_same hlt2, rfl⟩, hbase⟩, noown S2 _ _ hp2⟩
          · rename_i hne
            exact ⟨⟨⟨by rw [World.putObj_heap_other hne]; exact (S2.pin b o e).1.1, (S2.pin b o e).1.2⟩, (S2.pin b o e).2⟩, noown S2 _ _ e⟩) (by simpa using S2.b0)
    | _ => exact q2.elim
  | _ => exact q.elim
/-- Where an iterator runs: its calls of yield are rounds of the loop. -/
def EI (P : Program) (n : Nat) (s : Slots) (ps : List Nat) (assign body : Code) (l : Nat) : Env P where
  ro := none
  C := LoopIs n s ps assign body l
  mono := fun le ⟨rec, h1, h2, h3, h4, h5, h6, h7, h8⟩ => ⟨rec, le.pin _ _ h1, h2, h3, h4, h5, h6, h7, fun t => (h8 t).mono le⟩
  hold := fun b0 ⟨rec, h1, h2, h3, h4, h5, h6, h7, h8⟩ => ⟨rec, h1, h2, h3, h4, h5, h6, h7, fun t => (h8 t).hold⟩
  Y := fun i xs h K => i = l ∧ Round P n s ps assign body l xs h K
  sound := fun ⟨e, k⟩ m w0 g w vs hC hv S => by subst e; exact round_sound k m w0 g w vs hC hv S
theorem awp_rangeFunc {E : Env P} (hro : E.ro = none) {gop : Operand} {ps : List Nat} {assign body : Code} {Q : Post} {n : Nat} {s : Slots} {h : AHeap} {gf : FuncId} {captured : List AV}
    (hg : Slots.ev s gop = .func (.func gf) [] captured) (hf : callable P gf)
    (k : ∀ l, ACallsE (EI P n s ps assign body l) gf (.func (.yield l) [] [] :: captured) h fun r h' => Q .normal ⟨n, s, h'⟩) : AWP E (.rangeFunc gop ps.toArray assign body) Q ⟨n, s, h⟩ := fun m w0 g w a hC r S => by
  rw [hro]
  have hgv := r.ev gop
  rw [hg] at hgv
  generalize hav : a.eval gop = fv at hgv
  cases hgv with
  | func _ _ _ fa ca l1 l2 r1 r2 =>
    have e1 : fa = #[] := Array.eq_empty_of_size_eq_zero (by simpa using l1.symm)
    subst e1
    obtain ⟨gfn, hgf, hname, hbody⟩ := hf
    refine wpIn_rangeFunc ?_
    intro fn _
    let rec_ : Loop := { state := .ready, pending := none, fn, tmps := a.tmps, params := ps.toArray, assign, body, defers := w.heap.size }
    let w1 := (w.alloc (.deferred (some []))).alloc (.loop rec_)
    have hL1 : w1.heap[w.heap.size + 1]? = some (.loop rec_) := by
      have := World.alloc_heap_new (w.alloc (.deferred (some []))) (.loop rec_); rwa [World.size_alloc] at this
    have hK1 : w1.heap[w.heap.size]? = some (.deferred (some [])) :=
      (Below.heap_alloc _ _ _ (by simp)).trans (World.alloc_heap_new w _)
    have hB : Below w.heap.size w w1 := ((Below.refl _ w).alloc (Nat.le_refl _) _).alloc (by simp) _
    have hsz1 : w1.heap.size = w.heap.size + 2 := by simp [w1]
    have S1 := S.keep hB
    have hw0 : w0.heap.size ≤ w.heap.size := S.below.size
    let g1 := g.hold (fun b => if b = w.heap.size + 1 then some (.loop rec_) else if b = w.heap.size then some (.deferred (some [])) else g.pin b) g.b0
    have S2 : Sim w0 g1 h w1 := S1.hold none (Nat.le_refl _) rfl rfl rfl (fun _ _ _ => rfl) (fun b e => by cases e) (fun b o e => by
        split at e
        · rename_i hb; subst hb; injection e with e; subst e
          exact ⟨⟨⟨hL1, rfl⟩, by omega⟩, S.fresh (by omega)⟩
        · split at e
          · rename_i hb; subst hb; injection e with e; subst e
            exact ⟨⟨⟨hK1, rfl⟩, hw0⟩, S.fresh (Nat.le_refl _)⟩
          · exact ⟨⟨⟨(S1.pin b o e).1.1, (S1.pin b o e).1.2⟩, (S1.pin b o e).2⟩, fun id o' ho hd e2 => by
              have e' : g.pin b = some o := e
              rw [S1.free id o' b ho hd e2] at e'; cases e'⟩) S1.b0
    have lg : g.le g1 := ⟨Nat.le_refl _, fun _ _ => rfl, fun _ _ _ e => e, fun b o e => by
      have := S.pin_lt e
      show (if b = _ then _ else if b = _ then _ else g.pin b) = _
      rw [if_neg (by omega), if_neg (by omega)]; exact e, rfl⟩
    refine ⟨w.heap.size + 1, [markD w.heap.size], w1, { target := .fn (.func gf) ca, args := #[.func (.yield (w.heap.size + 1)) #[] #[]] }, w1, gf,
      #[.func (.yield (w.heap.size + 1)) #[] #[]] ++ ca, w1, run_enterLoop_outer _ _ _ _ _, ?_, fun _ _ => trivial, ?_, fun hh => by simp [RF, Fence.wide] at hh, ?_⟩
    · simp only [resolve, hav]
      simp [go_sem]
    · simp only [invoke, callFunc, Sem.run_bind, run_program, Result.andThen_ok, hgf]
      have h1 : (gfn.name == "runtime.NumGoroutine") = false := by simpa using hname
      simp [h1, hbody]
    · refine callsIn_rf ?_
      have hC1 : LoopIs n s ps assign body (w.heap.size + 1) g1 := ⟨rec_, by show (if _ = _ then _ else _) = _; rw [if_pos rfl], rfl, rfl, rfl, rfl, rfl, r.size, fun t => (r.slots t).hold⟩
      have hv : ValsRel g1 (.func (.yield (w.heap.size + 1)) [] [] :: captured) (#[.func (.yield (w.heap.size + 1)) #[] #[]] ++ ca) := by
        unfold ValsRel
        simp only [Array.toList_append]
        exact CellsRel.append (xs := [_]) ⟨rfl, fun i p q => by
          have : i = 0 := by simpa using p
          subst this
          exact .func _ _ _ _ _ rfl rfl (fun i h => absurd h (by simp)) (fun i h => absurd h (by simp))⟩ ⟨by simpa using l2, fun i p q => by simpa using (r2 i p (by simpa using q)).hold⟩
      refine (k (w.heap.size + 1) w0 g1 w1 _ hC1 hv S2).mono ?_
      rintro e w3 ⟨r3, v, h3, g3, rfl, l3, hv3, S3, q⟩
      have hp3 := l3.pin (w.heap.size + 1) _ (show g1.pin (w.heap.size + 1) = some (.loop rec_) by show (if _ = _ then _ else _) = _; rw [if_pos rfl])
      have hd3 := l3.pin w.heap.size _ (show g1.pin w.heap.size = some (.deferred (some [])) by show (if _ = _ then _ else if _ = _ then _ else _) = _; rw [if_neg (by omega), if_pos rfl])
      obtain ⟨⟨hheap3, _⟩, hbase⟩ := S3.pin _ _ hp3
      have hend := run_endLoop (P := P) hheap3 (by simp [rec_])
      have noown : ∀ b o', g3.pin b = some o' → ∀ id o, h3[id]? = some o → o ≠ .dead → (g3.at_ id).block ≠ some b := fun b o' e id o ho hd e2 => by
        rw [S3.free id o b ho hd e2] at e; cases e
      have noimm : ∀ o, g3.imm (w.heap.size + 1) o = none := fun o => by
        cases e2 : g3.imm (w.heap.size + 1) o with
        | none => rfl
        | some v =>
          have := S3.imm _ o v e2
          unfold World.cell? at this
          rw [hheap3] at this
          cases this
      let g4 := g3.hold (fun b => if b = w.heap.size + 1 then none else g3.pin b) g3.b0
      have S4 : Sim w0 g4 h3 (w3.putObj (w.heap.size + 1) (.loop { rec_ with state := .exhausted })) := S3.hold (some (w.heap.size + 1)) (by simp) rfl rfl rfl (fun k hk hne => World.putObj_heap_other (fun e => hne (by rw [e]))) (fun b e => by
          injection e with e; subst e
          exact ⟨hbase, noimm, noown _ _ hp3⟩) (fun b o e => by
          split at e
          · cases e
          · rename_i hne
            exact ⟨⟨⟨by rw [World.putObj_heap_other hne]; exact (S3.pin b o e).1.1, (S3.pin b o e).1.2⟩, (S3.pin b o e).2⟩, noown _ _ e⟩) (by simpa using S3.b0)
      have l4 : g.le g4 := ⟨l3.n, l3.at_, l3.imm, fun b o e => by
        have := S.pin_lt e
        show (if b = _ then _ else g3.pin b) = _
        rw [if_neg (by omega)]
        exact l3.pin b o (lg.pin b o e), l3.b0⟩
      refine ⟨_, _, hend, ?_⟩
      show Stands w0 g Q .normal _ _
      refine ⟨⟨n, s, h3⟩, g4, l4, ⟨?_, r.size, fun t => (r.slots t).mono l4⟩, S4, q⟩
      obtain ⟨Ds, h1, h2, h3⟩ := r.defers
      refine ⟨w.heap.size :: Ds, by simp [h1], List.nodup_cons.2 ⟨fun hm => ?_, h2⟩, fun D hD => ?_⟩
      · have := S.pin_lt (h3 _ hm).2; omega
      · rcases List.mem_cons.1 hD with rfl | hD
        · refine ⟨by rw [l4.b0]; exact S.b0, ?_⟩
          show (if w.heap.size = _ then _ else g3.pin _) = _
          rw [if_neg (by omega)]; exact hd3
        · exact ⟨by rw [l4.b0]; exact (h3 D hD).1, l4.pin _ _ (h3 D hD).2⟩
end
/-! Loops: what is kept of a state. -/
theorem get_of_mem : ∀ (l : Slots) (t : Nat), Slots.get l t = .undef ∨ ∃ p ∈ l, p.1 = t ∧ Slots.get l t = p.2
  | [], t => .inl rfl
  | (k, v) :: l, t => by
    simp only [Slots.get]
    by_cases h : k = t
    · rw [if_pos h]; exact .inr ⟨(k, v), by simp, h, rfl⟩
    · rw [if_neg h]
      rcases get_of_mem l t with h1 | ⟨p, h1, h2, h3⟩
      · exact .inl h1
      · exact .inr ⟨p, by simp [h1], h2, h3⟩
theorem st_keep {n : Nat} {s l : Slots} {h : AHeap} (hk : ∀ p ∈ l, Slots.get s p.1 = p.2) : ASt.le ⟨n, s, h⟩ ⟨n, l, h⟩ := ⟨rfl, rfl, fun t => by
  rcases get_of_mem l t with h1 | ⟨p, h1, h2, h3⟩
  · exact .inl h1
  · right; show Slots.get l t = Slots.get s t; rw [h3, ← h2, hk p h1]⟩
/-- The heap behind a part that stays. -/
@[simp] theorem get_app0 {h x : AHeap} : (h ++ x)[List.length h]? = x[0]? := by
  rw [List.getElem?_append_right (Nat.le_refl _), Nat.sub_self]
@[simp] theorem get_app {h x : AHeap} {i : Nat} : (h ++ x)[List.length h + i]? = x[i]? := by
  rw [List.getElem?_append_right (Nat.le_add_right _ _), Nat.add_sub_cancel_left]
@[simp] theorem set_app0 {h x : AHeap} {o : AObj} : (h ++ x).set (List.length h) o = h ++ x.set 0 o := by
  rw [List.set_append_right _ _ (Nat.le_refl _), Nat.sub_self]
@[simp] theorem set_app {h x : AHeap} {i : Nat} {o : AObj} : (h ++ x).set (List.length h + i) o = h ++ x.set i o := by
  rw [List.set_append_right _ _ (Nat.le_add_right _ _), Nat.add_sub_cancel_left]
theorem awp_le {P : Program} {E : Env P} {c : Code} {Q : Post} {st : ASt} {n : Nat} {l : Slots} {h : AHeap} (hl : st.le ⟨n, l, h⟩) (k : AWP E c Q ⟨n, l, h⟩) : AWP E c Q st := AWP.weaken hl k
@[simp] theorem uni_map {α : Type} {k : Nat} {f : α → AV} {l : List α} (h : ∀ x, (f x).cells.length = k) : uni k (l.map f) = true := by
  unfold uni; rw [List.all_eq_true]; intro y hy
  obtain ⟨b, _, rfl⟩ := List.mem_map.1 hy
  simp [h b]
@[simp] theorem onesL_map {α : Type} {f : α → AV} {l : List α} (h : ∀ x, ones (f x).cells = true) : onesL (l.map f) = true := by
  unfold onesL; rw [List.all_eq_true]; intro y hy
  obtain ⟨b, _, rfl⟩ := List.mem_map.1 hy
  exact h b
/-- A row's token, where the heap's part behind place b is x: the row is full, or its own. -/
def TokIn (b : Nat) (x : AHeap) (e : TypeId) (k : Nat) (t : Tok) : Prop := t = .full ∨ ∃ j, t = .own (b + j) ∧ x[j]? = some (.tail e k)
theorem TokIn.full {b : Nat} {x : AHeap} {e : TypeId} {k : Nat} : TokIn b x e k .full := .inl rfl
theorem TokIn.new {b j : Nat} {x : AHeap} {e : TypeId} {k : Nat} (h : x[j]? = some (.tail e k)) : TokIn b x e k (.own (b + j)) := .inr ⟨j, rfl, h⟩
@[simp] theorem get_last {h : AHeap} {o : AObj} : (h ++ [o])[List.length h]? = some o := by simp
/-- The same, where c objects lie ahead of x. -/
def TokAt (b c : Nat) (x : AHeap) (e : TypeId) (k : Nat) (t : Tok) : Prop := t = .full ∨ ∃ j, t = .own (b + (j + c)) ∧ x[j]? = some (.tail e k)
theorem TokAt.full {b c : Nat} {x : AHeap} {e : TypeId} {k : Nat} : TokAt b c x e k .full := .inl rfl
theorem TokAt.new {b c j : Nat} {x : AHeap} {e : TypeId} {k : Nat} (h : x[j]? = some (.tail e k)) : TokAt b c x e k (.own (b + (j + c))) := .inr ⟨j, rfl, h⟩
theorem st_keep' {n : Nat} {s l : Slots} {h h' : AHeap} (hh : h' = h) (hk : ∀ p ∈ l, Slots.get s p.1 = p.2) : ASt.le ⟨n, s, h⟩ ⟨n, l, h'⟩ := by subst hh; exact st_keep hk
/-- A body's end: new objects stay. -/
theorem body_all {P : Program} {rs : Array ResultVar} {h0 : AHeap} {R : AV → AHeap → Prop} {e : Exit} {n : Nat} {s : Slots} {h : AHeap} {x y : AV} (he : e = .normal ∨ e = .ret) (hx : aresults P rs s h = some y) (hy : y.strip = x) (hl : h0.length ≤ h.length) (hR : R x h) :
    BodyPost P rs h0 R e ⟨n, s, h⟩ := ⟨he, y, hx, x, .inr hy.symm, h, [], (List.append_nil _).symm, hl, .inl rfl, hR⟩
@[simp] theorem cut_no {a b c : Nat} : Tok.no.cut a b c = .no := by unfold Tok.cut; split <;> simp
theorem take_all {α : Type} {n : Nat} {l : List α} (h : l.length ≤ n) : l.take n = l := List.take_of_length_le h
end Go.Proofs.Ytajgeofhlgoifaa.V
