/- Regions that draw their order, where cells are read that nobody writes: they stand, whatever comes up. No program is named here. -/
import Derived.Test.YtajgeofhlgoifaaV36
set_option linter.unusedVariables false
set_option linter.unusedSimpArgs false
namespace Go.Proofs.Ytajgeofhlgoifaa.V
open Go Go.RowKit
/-- What tells its value. -/
def AV.det : AV → Bool
  | .int _ _ => true
  | .bool _ => true
  | .map _ => true
  | .ptr _ _ => true
  | .arr _ _ _ c => decide (0 < c)
  | _ => false
theorem AV.det_eq {g : Ghost} {x : AV} {v v' : Value} (hd : x.det = true) (r : VRel g x v) (r' : VRel g x v') : v = v' := by
  cases x with
  | int k n => rw [r.int_eq, r'.int_eq]
  | bool b => cases r; cases r'; rfl
  | map i =>
    obtain ⟨_, b, hb, rfl⟩ := map_eq r
    obtain ⟨_, b', hb', rfl⟩ := map_eq r'
    rw [hb] at hb'; injection hb' with hb'; rw [hb']
  | ptr i o =>
    obtain ⟨_, b, hb, rfl⟩ := r.ptr_eq
    obtain ⟨_, b', hb', rfl⟩ := r'.ptr_eq
    rw [hb] at hb'; injection hb' with hb'; rw [hb']
  | arr i o n c =>
    have hc : 0 < c := by simpa [AV.det] using hd
    obtain ⟨_, b, o1, hb, _, _, h1, rfl⟩ := r.arr_eq
    obtain ⟨_, b', o2, hb', _, _, h2, rfl⟩ := r'.arr_eq
    rw [hb] at hb'; injection hb' with hb'; rw [hb', h1 hc, h2 hc]
  | _ => cases hd
/-- These cells hold these. -/
def HeldA (h : AHeap) (Hs : List (Nat × Nat × AV)) : Prop := ∀ p ∈ Hs, p.2.2.det = true ∧ ∃ cs, h[p.1]? = some (.cells cs) ∧ cs[p.2.1]? = some p.2.2
def AQH (P : Program) (ops : Array Oper) (n : Nat) (Hs : List (Nat × Nat × AV)) (i : Nat) (s : Slots) (K : Slots → Prop) : Prop :=
  match ops[i]? with
  | none => False
  | some o => wantedThen (guardB ops s o) (∃ t x id off xs y, o.op = .load t x ∧ Slots.ev s x = .ptr id off ∧ (∀ i (h : i < xs.length), (id, off + i, xs[i]) ∈ Hs) ∧ partA P t xs 0 = some y ∧ 0 < xs.length ∧ K (Slots.put n s o.dst y)) (K (Slots.put n s o.dst (.tuple [])))
def ATreeH (P : Program) (ops : Array Oper) (n : Nat) (Hs : List (Nat × Nat × AV)) : Reg.Tree → Slots → AHeap → (Slots → AHeap → Prop) → Prop
  | .done, s, h, K => K s h
  | .a i r, s, h, K => AAtS P ops n i s h fun s h => HeldA h Hs ∧ ATreeH P ops n Hs r s h K
  | .q i r, s, h, K => AQAt P ops n i s h (fun s => ATreeH P ops n Hs r s h K) ∨ AQH P ops n Hs i s (fun s => ATreeH P ops n Hs r s h K)
  | .two i j r t, s, h, K => (AAtS P ops n i s h fun s h => HeldA h Hs ∧ ATreeH P ops n Hs r s h K) ∧ (AAtS P ops n j s h fun s h => HeldA h Hs ∧ ATreeH P ops n Hs t s h K)
  | .three _ _ _ _ _ _, _, _, _ => False
section
variable {P : Program} {ops : Array Oper} {n : Nat} {Hs : List (Nat × Nat × AV)}
theorem treeH_qs {u : Reg.Tree} {K : Slots → AHeap → Prop} : ∀ {l : List Nat} {s : Slots} {h : AHeap}, ATree P ops n (l.foldr Reg.Tree.q .done) s h (fun s h' => h' = h ∧ ATreeH P ops n Hs u s h K) → ATreeH P ops n Hs (l.foldr Reg.Tree.q u) s h K
  | [], s, h, k => by simp only [List.foldr_nil] at k ⊢; unfold ATree at k; exact k.2
  | i :: l, s, h, k => by
    simp only [List.foldr_cons] at k ⊢
    unfold ATree at k
    unfold ATreeH
    exact .inl (aqat_mono k fun s k => treeH_qs k)
/-- What is held, at a world. -/
def HeldW (g : Ghost) (Hs : List (Nat × Nat × AV)) (w : World) : Prop := ∀ p ∈ Hs, ∀ b v, g.at_ p.1 = .blk b → VRel g p.2.2 v → w.cell? ⟨b, p.2.1, none⟩ = some v
theorem held_get {w0 w : World} {g : Ghost} {h : AHeap} (S : Sim w0 g h w) (H : HeldA h Hs) {p : Nat × Nat × AV} (hp : p ∈ Hs) : p.1 < g.n ∧ ∃ b v, g.at_ p.1 = .blk b ∧ VRel g p.2.2 v ∧ w.cell? ⟨b, p.2.1, none⟩ = some v := by
  obtain ⟨hd, cs, ho, hc⟩ := H p hp
  have h1 : p.1 < h.length := (List.getElem?_eq_some_iff.1 ho).1
  have hO := S.obj p.1 _ ho
  obtain ⟨hl, hx⟩ := List.getElem?_eq_some_iff.1 hc
  cases hs : g.at_ p.1 with
  | tail v => rw [hs] at hO; exact hO.elim
  | loose v => rw [hs] at hO; exact hO.elim
  | blk b =>
    obtain ⟨_, vs, t, h2, h3, _⟩ := block_cells S ho hs
    have hlen : cs.length = vs.size := by simpa using h3.1
    have hr := h3.2 p.2.1 hl (by simp; omega)
    rw [hx] at hr
    refine ⟨by rw [← S.n]; exact h1, b, _, rfl, hr, ?_⟩
    have hlt : p.2.1 < vs.size := by omega
    rw [cell_of_row w b p.2.1 vs t (0, 0) h2]
    rw [Array.getElem_toList]
    simp [hlt]
theorem heldW_of {w0 w : World} {g : Ghost} {h : AHeap} (S : Sim w0 g h w) (H : HeldA h Hs) : HeldW g Hs w := fun p hp b v hb hv => by
  obtain ⟨_, b', v', hb', hv', hc⟩ := held_get S H hp
  rw [hb] at hb'
  injection hb' with hb'
  subst hb'
  rw [AV.det_eq (H p hp).1 hv hv']
  exact hc
theorem held_ids {w0 w : World} {g : Ghost} {h : AHeap} (S : Sim w0 g h w) (H : HeldA h Hs) : ∀ p ∈ Hs, p.1 < g.n := fun p hp => (held_get S H hp).1
theorem heldW_mono {g g' : Ghost} {w : World} (l : g.le g') (hi : ∀ p ∈ Hs, p.1 < g.n) (H : HeldW g' Hs w) : HeldW g Hs w := fun p hp b v hb hv =>
  H p hp b v ((l.at_ _ (hi p hp)).trans hb) (hv.mono l)
variable {Q : Exit → Act → World → Prop}
theorem aatH_sound {w0 : World} {i m : Nat} {s : Slots} {h : AHeap} {g : Ghost} {w : World} {a : Act} {K : Slots → AHeap → Prop} {listed : Array Bool} (k : AAtS P ops n i s h K) (r : StRel g ⟨n, s, h⟩ a) (S : Sim w0 g h w) (hH : HeldA h Hs) (hKH : ∀ s h, K s h → HeldA h Hs)
    (hi : ∀ p ∈ Hs, p.1 < g.n)
    (next : ∀ s g' a' w' h', g.le g' → StRel g' ⟨n, s, h'⟩ a' → Sim w0 g' h' w' → K s h' → wpAnyH P .any ops Q (fun w => Agree g' w ∧ HeldW g' Hs w) m listed a' w') :
    wpOp P ops Q i (fun a' w' => (Agree g w' ∧ HeldW g Hs w') ∧ wpAnyH P .any ops Q (fun w => Agree g w ∧ HeldW g Hs w) m listed a' w') a w := by
  unfold AAtS at k
  split at k
  · exact k.elim
  · rename_i o ho
    unfold wpOp
    simp only [ho]
    rcases wanted_of (st := ⟨n, s, h⟩) r k with ⟨hwt, hy⟩ | ⟨hwt, hno⟩
    · rw [if_pos hwt]
      refine .inl (hy w0 g w a r S _ Q fun v w' g' x h' l hv S' hk => ?_)
      have low : ∀ w2, (Agree g' w2 ∧ HeldW g' Hs w2) → (Agree g w2 ∧ HeldW g Hs w2) := fun w2 h2 => ⟨fun b o v e => h2.1 b o v (l.imm b o v e), heldW_mono l hi h2.2⟩
      exact ⟨low _ ⟨S'.agree, heldW_of S' (hKH _ _ hk)⟩, wpAnyH_mono low _ _ _ _ (next _ g' _ w' h' l ((r.mono l).put o.dst hv h') S' hk)⟩
    · rw [if_neg (by simp [hwt])]
      exact ⟨⟨S.agree, heldW_of S hH⟩, next _ g _ w h (.refl g) (r.put o.dst (void_rel g) h) S hno⟩
theorem atreeH_sound {w0 : World} {K : Slots → AHeap → Prop} (hsel : Region.noSelect ops = true) (hQ : ∀ d c a v w, Q (.panic c) (a.put d v) w → Q (.panic c) a w) :
    ∀ (t : Reg.Tree) (m : Nat) (listed : Array Bool) (s : Slots) (h : AHeap) (g : Ghost) (w : World) (a : Act), Reg.treeB ops t m listed = true → ATreeH P ops n Hs t s h K → HeldA h Hs → StRel g ⟨n, s, h⟩ a → Sim w0 g h w →
      (∀ s g' a' w' h', g.le g' → StRel g' ⟨n, s, h'⟩ a' → Sim w0 g' h' w' → K s h' → Q .normal a' w') → wpAnyH P .any ops Q (fun w => Agree g w ∧ HeldW g Hs w) m listed a w
  | .done, m, listed, s, h, g, w, a, hB, k, hH, r, S, hn => by
    simp only [Reg.treeB, Bool.and_eq_true, beq_iff_eq] at hB
    exact wpAnyH_done (by simpa using hB.2) (hn s g a w h (.refl g) r S k) _
  | .a i t, 0, listed, s, h, g, w, a, hB, k, hH, r, S, hn => by simp [Reg.treeB] at hB
  | .a i t, m + 1, listed, s, h, g, w, a, hB, k, hH, r, S, hn => by
    simp only [Reg.treeB, Bool.and_eq_true, beq_iff_eq] at hB
    refine wpAnyH_all (rs := [i]) hB.1 (by simp) fun j hj => ?_
    obtain rfl : j = i := by simpa using hj
    exact aatH_sound k r S hH (fun _ _ k => k.1) (held_ids S hH) fun s g' a' w' h' l r' S' k' => atreeH_sound hsel hQ t m _ s h' g' w' a' hB.2 k'.2 k'.1 r' S' fun s2 g2 a2 w2 h2 l2 => hn s2 g2 a2 w2 h2 (l.trans l2)
  | .q i t, 0, listed, s, h, g, w, a, hB, k, hH, r, S, hn => by simp [Reg.treeB] at hB
  | .q i t, m + 1, listed, s, h, g, w, a, hB, k, hH, r, S, hn => by
    simp only [Reg.treeB, Bool.and_eq_true] at hB
    have hS : Agree g w ∧ HeldW g Hs w := ⟨S.agree, heldW_of S hH⟩
    unfold ATreeH at k
    rcases k with k | k
    · unfold AQAt at k
      split at k
      · exact k.elim
      · rename_i o ho
        rcases wanted_of (st := ⟨n, s, h⟩) r k with ⟨hwt, hy⟩ | ⟨hwt, hno⟩
        · unfold bindQ at hy
          split at hy
          · rename_i x hx
            obtain ⟨v, hv, hr⟩ := aqS_sound (o := o) (st := ⟨n, s, h⟩) hx r S
            exact wpAnyH_take ho hsel hB.1.2 hB.1.1 (fun c a' w' h' => hQ _ c a' _ w' h') (.inl ⟨hwt, fun w h => hr w h.1⟩) hS (atreeH_sound hsel hQ t m _ _ h g w _ hB.2 hy hH (r.put o.dst hv h) S hn)
          · exact hy.elim
        · exact wpAnyH_take ho hsel hB.1.2 hB.1.1 (fun c a' w' h' => hQ _ c a' _ w' h') (.inr ⟨hwt, rfl⟩) hS (atreeH_sound hsel hQ t m _ _ h g w _ hB.2 hno hH (r.put o.dst (void_rel g) h) S hn)
    · unfold AQH at k
      split at k
      · exact k.elim
      · rename_i o ho
        rcases wanted_of (st := ⟨n, s, h⟩) r k with ⟨hwt, hy⟩ | ⟨hwt, hno⟩
        · obtain ⟨ty, x, id, off, xs, y, hop, hx, hm, hp, hpos, hk⟩ := hy
          have rx := r.ev x
          simp only at rx
          rw [hx] at rx
          obtain ⟨hid, b, hb, hv⟩ := rx.ptr_eq
          have hvals : ∃ u : Nat → Value, ∀ i (h : i < xs.length), VRel g xs[i] (u i) := by
            refine ⟨fun i => if h : i < xs.length then Classical.choose (held_get S hH (hm i h)).2 |> fun _ => (Classical.choose (Classical.choose_spec (held_get S hH (hm i h)).2)) else .nilIface, fun i h => ?_⟩
            simp only [h, dif_pos]
            exact (Classical.choose_spec (Classical.choose_spec (held_get S hH (hm i h)).2)).2.1
          obtain ⟨u, hu⟩ := hvals
          obtain ⟨v, hvr, hrun⟩ := load_part (P := P) (g := g) hp b off u hu
          have hr : ∀ w, (Agree g w ∧ HeldW g Hs w) → (execOp a.eval o).run P w = .ok (.value v) w := fun w hw => by
            have := hrun w (fun i hi => hw.2 _ (hm i hi) b (u i) hb (hu i hi))
            simp only [Nat.add_zero] at this
            simp [execOp, hop, hv, Sem.run_bind, this]
          exact wpAnyH_take ho hsel hB.1.2 hB.1.1 (fun c a' w' h' => hQ _ c a' _ w' h') (.inl ⟨hwt, hr⟩) hS (atreeH_sound hsel hQ t m _ _ h g w _ hB.2 hk hH (r.put o.dst hvr h) S hn)
        · exact wpAnyH_take ho hsel hB.1.2 hB.1.1 (fun c a' w' h' => hQ _ c a' _ w' h') (.inr ⟨hwt, rfl⟩) hS (atreeH_sound hsel hQ t m _ _ h g w _ hB.2 hno hH (r.put o.dst (void_rel g) h) S hn)
  | .two i j t u, 0, listed, s, h, g, w, a, hB, k, hH, r, S, hn => by simp [Reg.treeB] at hB
  | .two i j t u, m + 1, listed, s, h, g, w, a, hB, k, hH, r, S, hn => by
    simp only [Reg.treeB, Bool.and_eq_true, beq_iff_eq] at hB
    refine wpAnyH_all (rs := [i, j]) hB.1.1 (by simp) fun q hq => ?_
    have hq : q = i ∨ q = j := by simpa using hq
    rcases hq with rfl | rfl
    · exact aatH_sound k.1 r S hH (fun _ _ k => k.1) (held_ids S hH) fun s g' a' w' h' l r' S' k' => atreeH_sound hsel hQ t m _ s h' g' w' a' hB.1.2 k'.2 k'.1 r' S' fun s2 g2 a2 w2 h2 l2 => hn s2 g2 a2 w2 h2 (l.trans l2)
    · exact aatH_sound k.2 r S hH (fun _ _ k => k.1) (held_ids S hH) fun s g' a' w' h' l r' S' k' => atreeH_sound hsel hQ u m _ s h' g' w' a' hB.2 k'.2 k'.1 r' S' fun s2 g2 a2 w2 h2 l2 => hn s2 g2 a2 w2 h2 (l.trans l2)
  | .three i j k1 t u v, m, listed, s, h, g, w, a, hB, k, hH, r, S, hn => k.elim
end
section
variable {P : Program} {ops : Array Oper} {n : Nat} {Hs : List (Nat × Nat × AV)}
theorem treeH_ld {i : Nat} {r : Reg.Tree} {s : Slots} {h : AHeap} {K : Slots → AHeap → Prop} {o : Oper} {t : TypeId} {x : Operand} {id off : Nat} {y : AV} (xs : List AV) (ho : ops[i]? = some o) (hop : o.op = .load t x) (hg : guardB ops s o = .bool true) (hx : Slots.ev s x = .ptr id off)
    (hm : ∀ i (h : i < xs.length), (id, off + i, xs[i]) ∈ Hs) (hp : partA P t xs 0 = some y) (hpos : 0 < xs.length) (k : ATreeH P ops n Hs r (Slots.put n s o.dst y) h K) : ATreeH P ops n Hs (.q i r) s h K := by
  unfold ATreeH
  refine .inr ?_
  unfold AQH
  rw [ho]
  simp only [hg, wantedThen, if_true]
  exact ⟨t, x, id, off, xs, y, hop, hx, hm, hp, hpos, k⟩
theorem treeH_ld1 {i : Nat} {r : Reg.Tree} {s : Slots} {h : AHeap} {K : Slots → AHeap → Prop} {o : Oper} {t : TypeId} {x : Operand} {id off : Nat} {y : AV} (z : AV) (ho : ops[i]? = some o) (hop : o.op = .load t x) (hg : guardB ops s o = .bool true) (hx : Slots.ev s x = .ptr id off)
    (hm : (id, off, z) ∈ Hs) (hp : partA P t [z] 0 = some y) (k : ATreeH P ops n Hs r (Slots.put n s o.dst y) h K) : ATreeH P ops n Hs (.q i r) s h K :=
  treeH_ld [z] ho hop hg hx (fun i hi => by have : i = 0 := by simpa using hi
                                            subst this; exact hm) hp (by simp) k
theorem treeH_ld3 {i : Nat} {r : Reg.Tree} {s : Slots} {h : AHeap} {K : Slots → AHeap → Prop} {o : Oper} {t : TypeId} {x : Operand} {id off : Nat} {y : AV} (z0 z1 z2 : AV) (ho : ops[i]? = some o) (hop : o.op = .load t x) (hg : guardB ops s o = .bool true) (hx : Slots.ev s x = .ptr id off)
    (hm : (id, off, z0) ∈ Hs ∧ (id, off + 1, z1) ∈ Hs ∧ (id, off + 2, z2) ∈ Hs) (hp : partA P t [z0, z1, z2] 0 = some y) (k : ATreeH P ops n Hs r (Slots.put n s o.dst y) h K) : ATreeH P ops n Hs (.q i r) s h K :=
  treeH_ld [z0, z1, z2] ho hop hg hx (fun i hi => by
    have : i = 0 ∨ i = 1 ∨ i = 2 := by simp at hi; omega
    rcases this with rfl | rfl | rfl
    · exact hm.1
    · exact hm.2.1
    · exact hm.2.2) hp (by simp) k
theorem treeH_a {i : Nat} {r : Reg.Tree} {s : Slots} {h : AHeap} {K : Slots → AHeap → Prop} (k : AAtS P ops n i s h fun s h => HeldA h Hs ∧ ATreeH P ops n Hs r s h K) : ATreeH P ops n Hs (.a i r) s h K := k
theorem treeH_two {i j : Nat} {r t : Reg.Tree} {s : Slots} {h : AHeap} {K : Slots → AHeap → Prop} (k1 : AAtS P ops n i s h fun s h => HeldA h Hs ∧ ATreeH P ops n Hs r s h K) (k2 : AAtS P ops n j s h fun s h => HeldA h Hs ∧ ATreeH P ops n Hs t s h K) : ATreeH P ops n Hs (.two i j r t) s h K := ⟨k1, k2⟩
theorem treeH_done {s : Slots} {h : AHeap} {K : Slots → AHeap → Prop} (k : K s h) : ATreeH P ops n Hs .done s h K := k
/-- An operation that the machine of this library walks. -/
theorem treeH_auto {i : Nat} {r : Reg.Tree} {s : Slots} {h : AHeap} {K : Slots → AHeap → Prop} (k : ATree P ops n (.a i .done) s h fun s h => HeldA h Hs ∧ ATreeH P ops n Hs r s h K) : ATreeH P ops n Hs (.a i r) s h K :=
  aat_s (by unfold ATree at k; exact k) fun s h k => by unfold ATree at k; exact k
/-- Maps: how many, one more. -/
theorem aats_of {i : Nat} {s : Slots} {h : AHeap} {K : Slots → AHeap → Prop} {o : Oper} {sem : Act → Sem Value} (ho : ops[i]? = some o) (hg : guardB ops s o = .bool true) (hex : ∀ a : Act, execOp a.eval o = (do let r ← sem a; pure (Next.value r) : Sem Next))
    (k : ∀ w0 g w a, StRel g ⟨n, s, h⟩ a → Sim w0 g h w → ∃ x h', K (Slots.put n s o.dst x) h' ∧ Gives P w0 g w x h' (sem a)) : AAtS P ops n i s h K := by
  unfold AAtS
  rw [ho]
  simp only [hg, wantedThen, if_true]
  intro w0 g w a r S next Q hn
  obtain ⟨x, h', hk, v, w', g', hr, l, hv, S'⟩ := k w0 g w a r S
  unfold Oper.wp
  rw [hex, Sem.run_bind, hr]
  exact hn v w' g' x h' l hv S' hk
theorem aats_lenm {i : Nat} {s : Slots} {h : AHeap} {K : Slots → AHeap → Prop} {o : Oper} {mty kt et : TypeId} {id clock : Nat} {es : List (AV × AV × Nat)} {m : Operand} (ho : ops[i]? = some o) (hop : o.op = .call ⟨.builtin .len, #[m], #[mty]⟩) (hg : guardB ops s o = .bool true)
    (hm : P.underlying mty = some (.map kt et)) (hx : Slots.ev s m = .map id) (hoo : h[id]? = some (.map es clock)) (q : K (Slots.put n s o.dst (.int .i64 (es.length : Nat))) h) : AAtS P ops n i s h K :=
  aats_of (sem := fun a => Builtin.len_ #[mty] o.type #[a.eval m]) ho hg (fun a => by simp [execOp, hop, resolve, invoke, builtin]) fun w0 g w a ra S => by
    have rm := ra.ev m
    simp only at rm
    rw [hx] at rm
    exact ⟨_, _, q, len_map S hm hoo rm⟩
theorem aats_put {α : Type} [DecidableEq α] {kf : α → AV} {kv : α → Value} {kt mty et : TypeId} {i : Nat} {s : Slots} {h : AHeap} {Q : Slots → AHeap → Prop} {o : Oper} {id clock : Nat} {es : Ents α} {k : α} {m kx x : Operand} {v : AV} (K : KeyFor P kt kf kv) (ho : ops[i]? = some o) (hop : o.op = .mapUpdate mty m kx x) (hg : guardB ops s o = .bool true) (hdst : o.dst = none)
    (hm : P.underlying mty = some (.map kt et)) (hx : Slots.ev s m = .map id) (hk : Slots.ev s kx = kf k) (hv : Slots.ev s x = v) (hoo : h[id]? = some (mapO kf es clock))
    (q : Q s (h.set id (mapO kf (putE k v clock es) (putC k clock es)))) : AAtS P ops n i s h Q := by
  unfold AAtS
  rw [ho]
  simp only [hg, wantedThen, if_true]
  intro w0 g w a ra S next Q2 hn
  have rm := ra.ev m
  have rk := ra.ev kx
  have rx := ra.ev x
  simp only at rm rk rx
  rw [hx] at rm
  rw [hk] at rk
  rw [hv] at rx
  obtain ⟨w', hrun, S'⟩ := put_map (P := P) K S hm hoo rm rk rx
  unfold Oper.wp execOp
  simp only [hop, Sem.run_bind, hrun, Result.andThen_ok, Sem.run_pure]
  refine hn _ w' g (.tuple []) _ (.refl g) (void_rel g) S' ?_
  rw [hdst]
  exact q
theorem aats_append {i : Nat} {s : Slots} {h : AHeap} {K : Slots → AHeap → Prop} {o : Oper} {t t2 e : TypeId} {x y : Operand} {k by_ m c : Nat} {zc cs : List AV} {z : AV}
    (ho : ops[i]? = some o) (hop : o.op = .call ⟨.builtin .append, #[x, y], #[t, t2]⟩) (hg : guardB ops s o = .bool true) (ht : P.underlying t = some (.slice e)) (hs : sizeT P e = some k) (hb : bytesT P e = some by_) (hz : zeroCells P e = some zc) (hzl : zc.length = k) (hk : 0 < k)
    (hzk : z.cells.length = k) (h1 : onesL [z] = true) (hx : RowAt h k (Slots.ev s x) m c cs) (hy : newsA P t2 e (Slots.ev s y) = some [z]) (hbb : (m + 1) * by_ ≤ 140737488355328) (h63 : m + 1 ≤ 140737488355328)
    (k0 : Grown h k (Slots.ev s x) m c cs z fun r h' => K (Slots.put n s o.dst r) h') : AAtS P ops n i s h K :=
  aats_of (sem := fun a => Builtin.append_ #[t, t2] o.type #[a.eval x, a.eval y]) ho hg (fun a => by simp [execOp, hop, resolve, invoke, builtin]) fun w0 g w a r S => by
    obtain ⟨q, h', hq, G⟩ := append_k (P := P) (t2 := t2) (ty := o.type) S ht hs hb hz hzl hk hzk h1 hx hy hbb h63 (r.ev x) (r.ev y) k0
    exact ⟨q, h', hq, G⟩
end
theorem awp_drawH {P : Program} {E : Env P} {id : Nat} {l : List Oper} {Q : Post} {n : Nat} {s : Slots} {h : AHeap} (Hs : List (Nat × Nat × AV)) (t : Reg.Tree) (hH : HeldA h Hs) (hm : P.follows .mixedOrders = true)
    (hB : (Region.noSelect l.toArray && Reg.treeB l.toArray t l.length (Array.replicate l.length false)) = true)
    (k : ATreeH P l.toArray n Hs t s h fun s h => Q .normal ⟨n, s, h⟩) (hro : E.ro = none := by rfl) : AWP E (.region id l.toArray true) Q ⟨n, s, h⟩ := by
  have key : AWP E (.region id l.toArray true) (fun e st => e = .normal ∧ st.n = n ∧ Q .normal ⟨n, st.s, st.h⟩) ⟨n, s, h⟩ := fun m w0 g w a hC r S => by
    simp only [Bool.and_eq_true] at hB
    rw [hro]
    refine wpIn_wide.2 (wp_region_held (S := fun w => Agree g w ∧ HeldW g Hs w) hm ?_)
    have := atreeH_sound (w0 := w0) (Q := Stands w0 g (fun e st => e = .normal ∧ st.n = n ∧ Q .normal ⟨n, st.s, st.h⟩)) hB.1 (fun d c a v w hh => by obtain ⟨st, g', l, r, S, h1, _⟩ := hh; cases h1) t _ _ s h g w.drew a hB.2 k hH r S.drew
      (fun s g' a' w' h' l' r' S' k' => ⟨⟨n, s, h'⟩, g', l', r', S', rfl, rfl, k'⟩)
    simpa using this
  exact AWP.mono key fun e st ⟨h1, h2, h3⟩ => by subst h1; subst h2; exact h3
end Go.Proofs.Ytajgeofhlgoifaa.V
