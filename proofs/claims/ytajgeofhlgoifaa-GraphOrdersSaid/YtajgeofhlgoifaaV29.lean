/- Slices that grow, and whose cells turn, of any size: append. No program is named here. -/
import Derived.Test.YtajgeofhlgoifaaV23
import Derived.Test.YtajgeofhlgoifaaV27
set_option linter.unusedVariables false
set_option linter.unusedSimpArgs false
namespace Go.Proofs.Ytajgeofhlgoifaa.V
open Go Go.RowKit
section
variable {P : Program} {E : Env P} {w0 w : World} {g : Ghost} {h : AHeap}
/-- Where such a slice lies: nowhere yet, or a whole object. -/
inductive RowAt (h : AHeap) (k : Nat) : AV → Nat → Nat → List AV → Prop
  | nil : RowAt h k (.list [] .full) 0 0 []
  | arr (id n c : Nat) (cs : List AV) (ho : h[id]? = some (.cells cs)) (hc : cs.length = c * k) (hn : n ≤ c) (h0 : 0 < c) : RowAt h k (.arr id 0 n c) n c cs
theorem cells_nil' (g : Ghost) : CellsRel g [] [] := ⟨rfl, fun i h => absurd h (by simp)⟩
/-- What may come of append. -/
def Grown (h : AHeap) (k : Nat) (x : AV) (n c : Nat) (cs : List AV) (z : AV) (K : AV → AHeap → Prop) : Prop :=
  (n < c → ∀ id, x = .arr id 0 n c → K (.arr id 0 (n + 1) c) (h.set id (.cells (V.over cs (n * k) z.cells)))) ∧
  (n = c → ∀ c' (u : List AV), n + 1 ≤ c' → u.length = (c' - (n + 1)) * k → K (.arr h.length 0 (n + 1) c') (h ++ [.cells (cs ++ z.cells ++ u)]))
theorem grow_case (S : Sim w0 g h w) {t t2 ty e : TypeId} {k by_ n : Nat} {zc cs : List AV} {A : Option Addr} {z : AV} {vy : Value} {news olds : List Value} (ht : P.underlying t = some (.slice e)) (hs : sizeT P e = some k) (hb : bytesT P e = some by_) (hz : zeroCells P e = some zc) (hzl : zc.length = k) (hk : 0 < k)
    (hzk : z.cells.length = k) (ht2 : P.underlying t2 = some .string ∨ ∃ e2, P.underlying t2 = some (.slice e2)) (N : NewsAt P g k vy [z] news) (hol : olds.length = n * k) (hcr : CellsRel g cs olds)
    (hf : (Builtin.firstCells k n (.slice A n n)).run P w.drew = .ok olds.toArray w.drew) (hbb : (n + 1) * by_ ≤ 140737488355328) (h63 : n + 1 ≤ 140737488355328) :
    ∃ (c' : Nat) (u : List AV), n + 1 ≤ c' ∧ u.length = (c' - (n + 1)) * k ∧ Gives P w0 g w (.arr h.length 0 (n + 1) c') (h ++ [.cells (cs ++ z.cells ++ u)]) (Builtin.append_ #[t, t2] ty #[.slice A n n, vy]) := by
  obtain ⟨it, zv, hi, hzv, hzr⟩ := zeroCells_spec (P := P) (g := g) hz
  have hby : it.bytes = by_ := by simpa [bytesT, hi] using hb
  have hzs : zv.cells.size = k := by have := hzr.1; simp at this; omega
  have hrun := append_grow (P := P) (g := g) (w := w) t t2 ty e ht hs hi hzv ht2 N S.agree (c := n) (n := n) (A := A) (by simp) hf (by rw [hby]; simpa using hbb) (by simpa using h63)
  have hcap1 := grownCap_ge w (n + 1) n e
  have hcap2 := grownCap_le_maxLen w (n + 1) n e (by unfold maxLen; omega)
  simp only [List.length_singleton] at hrun
  generalize hcap : grownCap w (n + 1) n e = cap at hrun hcap1 hcap2
  have hnl : news.length = k := by rw [N.size]; simp
  have hcl : cs.length = n * k := by rw [hcr.1, hol]
  have hzl2 : (Builtin.zeroCells zv.cells (cap - (n + 1))).size = (cap - (n + 1)) * k := by rw [size_zeroCells, hzs]
  have hsz : (olds ++ news ++ (Builtin.zeroCells zv.cells (cap - (n + 1))).toList).toArray.size = cap * k := by
    simp only [List.size_toArray, List.length_append, hol, hnl, Array.length_toList, hzl2]
    have : n * k + k = (n + 1) * k := by rw [Nat.add_mul, Nat.one_mul]
    rw [this, ← Nat.add_mul]; congr 1; omega
  have hc : CellsRel g (cs ++ z.cells ++ List.replicate ((cap - (n + 1)) * k) .undef) (olds ++ news ++ (Builtin.zeroCells zv.cells (cap - (n + 1))).toList).toArray.toList := by
    simp only [List.toList_toArray]
    refine CellsRel.append (CellsRel.append hcr ⟨by rw [hzk, hnl], fun i h1 h2 => ?_⟩) ⟨by simp [hzl2], fun i h1 h2 => ?_⟩
    · have := N.rel 0 (by simp) i (by simpa using h1)
      simpa [List.getD_eq_getElem?_getD, List.getElem?_eq_getElem h2] using this
    · rw [List.getElem_replicate]; exact .undef _
  have hne : 0 < cap := by omega
  obtain ⟨l, S', r⟩ := new_obj (w := w.drew) S.drew e hc
  refine ⟨cap, _, hcap1, by simp, _, _, _, hrun, l, ?_, S'⟩
  exact .arr _ _ _ _ _ _ (by rw [S.n]; exact Nat.lt_succ_self _) (by rw [S.n]; exact Ghost.push_at g _) hcap1 hcap2 (fun _ => rfl)
theorem append_k (S : Sim w0 g h w) {t t2 ty e : TypeId} {k by_ n c : Nat} {zc cs : List AV} {x y z : AV} {vx vy : Value} (ht : P.underlying t = some (.slice e)) (hs : sizeT P e = some k) (hb : bytesT P e = some by_) (hz : zeroCells P e = some zc) (hzl : zc.length = k) (hk : 0 < k)
    (hzk : z.cells.length = k) (h1 : onesL [z] = true) (hx : RowAt h k x n c cs) (hy : newsA P t2 e y = some [z]) (hbb : (n + 1) * by_ ≤ 140737488355328) (h63 : n + 1 ≤ 140737488355328) (rx : VRel g x vx) (ry : VRel g y vy) {K : AV → AHeap → Prop} (k0 : Grown h k x n c cs z K) :
    ∃ r h', K r h' ∧ Gives P w0 g w r h' (Builtin.append_ #[t, t2] ty #[vx, vy]) := by
  have hu1 : uni k [z] = true := by simp [uni, hzk]
  obtain ⟨⟨news, N⟩, ht2⟩ := newsA_sound (P := P) (g := g) hy hs hk hu1 h1 ry
  obtain ⟨k1, k2⟩ := k0
  cases hx with
  | nil =>
    obtain ⟨A, c, rfl, hc, hm, hnn, htok, hL⟩ := rx.list_eq
    obtain rfl : c = 0 := htok
    obtain ⟨b, o, u, L⟩ := hL k (by rfl)
    have hf : (Builtin.firstCells k 0 (.slice A 0 0)).run P w.drew = .ok ([] : List Value).toArray w.drew := by
      have := L.first (P := P) hk (by intro; rfl) (Nat.le_refl _) w.drew S.drew.agree
      simpa using this
    obtain ⟨c', u2, e1, e2, G⟩ := grow_case (P := P) (n := 0) (cs := []) (olds := []) (A := A) (t2 := t2) (ty := ty) S ht hs hb hz hzl hk hzk ht2 N (by simp) (cells_nil' g) hf hbb h63
    exact ⟨_, _, k2 rfl c' u2 e1 e2, G⟩
  | arr id n c cs ho hc hn h0 =>
    obtain ⟨hid, b, o, hb', hc2, hm, ho0, rfl⟩ := rx.arr_eq
    obtain rfl := ho0 h0
    obtain ⟨hbase, vs, tt, h2, h3, h4⟩ := block_cells S ho hb'
    have hlen : cs.length = vs.size := by simpa using h3.1
    by_cases hnc : n < c
    · have hk1 := k1 hnc id rfl
      have hrun := append_room (P := P) (g := g) (w := w) (A := some ⟨b, 0, none⟩) (n := n) (c := c) t t2 ty e ht hs ht2 N S.agree (by simp only [List.length_singleton]; omega)
      have hnl : news.length = k := by rw [N.size]; simp
      have hmul : n * k + k ≤ c * k := by
        have : (n + 1) * k ≤ c * k := Nat.mul_le_mul_right k hnc
        rwa [Nat.add_mul, Nat.one_mul] at this
      have hst := run_storeCells_at P b (n * k) tt news 0 vs w h2 (by omega) N.one
      simp only [Nat.add_zero] at hst
      refine ⟨_, _, hk1, .slice (some ⟨b, 0, none⟩) (n + 1) c, w.setRow b (vs.toList.take (n * k) ++ news ++ vs.toList.drop (n * k + news.length)).toArray, g, ?_, .refl g, .arr _ _ _ _ _ _ hid hb' hnc hm (fun _ => rfl), ?_⟩
      · rw [hrun]
        simp only [List.length_singleton, Addr.add_lit, Nat.zero_add, Sem.run_bind, hst, Result.andThen_ok, Sem.run_pure]
      · have hr : (w.setRow b (vs.toList.take (n * k) ++ news ++ vs.toList.drop (n * k + news.length)).toArray).heap[b]? = some (.cells (vs.toList.take (n * k) ++ news ++ vs.toList.drop (n * k + news.length)).toArray tt (0, 0)) := setRow_heap w b vs _ tt _ h2
        refine S.turn (o' := .cells (V.over cs (n * k) z.cells)) ho (by simp) (b := b) (by rw [hb']; rfl) (by simp [World.setRow]) rfl rfl rfl (fun k _ hk => setRow_other w b k _ hk) (fun o v e => by rw [h4 o] at e; cases e) (fun o v e => by rw [h4 o] at e; cases e) ?_
        rw [hb']
        refine ⟨hbase, ⟨_, tt, hr, ?_⟩, h4⟩
        have := h3.over (xs := z.cells) (us := news) (off := n * k) ⟨by rw [hzk, hnl], fun i a b => by
          have := N.rel 0 (by simp) i (by simpa using a)
          simpa [List.getD_eq_getElem?_getD, List.getElem?_eq_getElem b] using this⟩ (by rw [hzk]; omega)
        simpa using this
    · obtain rfl : n = c := by omega
      have hf : (Builtin.firstCells k n (.slice (some ⟨b, 0, none⟩) n n)).run P w.drew = .ok vs.toList.toArray w.drew := by
        refine run_firstCells_some (P := P) w.drew k n ⟨b, 0, none⟩ n n _ (by simp; omega) fun q v hq => ?_
        rw [Addr.add_lit, Nat.zero_add]
        rw [cell_of_row w.drew _ _ _ _ _ h2]
        simpa using hq
      obtain ⟨c', u2, e1, e2, G⟩ := grow_case (P := P) (n := n) (cs := cs) (olds := vs.toList) (A := some ⟨b, 0, none⟩) (t2 := t2) (ty := ty) S ht hs hb hz hzl hk hzk ht2 N (by simp; omega) h3 hf hbb h63
      exact ⟨_, _, k2 rfl c' u2 e1 e2, G⟩
end
/-! Regions that draw their order, with operations by rules of their own. -/
def AAtS (P : Program) (ops : Array Oper) (n : Nat) (i : Nat) (s : Slots) (h : AHeap) (K : Slots → AHeap → Prop) : Prop :=
  match ops[i]? with
  | none => False
  | some o => wantedThen (guardB ops s o) (AOp P o ⟨n, s, h⟩ fun x h' => K (Slots.put n s o.dst x) h') (K (Slots.put n s o.dst (.tuple [])) h)
def ATreeS (P : Program) (ops : Array Oper) (n : Nat) : Reg.Tree → Slots → AHeap → (Slots → AHeap → Prop) → Prop
  | .done, s, h, K => K s h
  | .a i r, s, h, K => AAtS P ops n i s h fun s h => ATreeS P ops n r s h K
  | .q i r, s, h, K => AQAt P ops n i s h fun s => ATreeS P ops n r s h K
  | .two i j r t, s, h, K => (AAtS P ops n i s h fun s h => ATreeS P ops n r s h K) ∧ (AAtS P ops n j s h fun s h => ATreeS P ops n t s h K)
  | .three i j k r t u, s, h, K => (AAtS P ops n i s h fun s h => ATreeS P ops n r s h K) ∧ (AAtS P ops n j s h fun s h => ATreeS P ops n t s h K) ∧ (AAtS P ops n k s h fun s h => ATreeS P ops n u s h K)
/-- One tree behind another one. -/
def graft (u : Reg.Tree) : Reg.Tree → Reg.Tree
  | .done => u
  | .a i r => .a i (graft u r)
  | .q i r => .q i (graft u r)
  | .two i j r t => .two i j (graft u r) (graft u t)
  | .three i j k r t v => .three i j k (graft u r) (graft u t) (graft u v)
section
variable {P : Program} {ops : Array Oper} {n : Nat}
theorem aat_s {i : Nat} {s : Slots} {h : AHeap} {K K' : Slots → AHeap → Prop} (k : AAt P ops n i s h K) (hk : ∀ s h, K s h → K' s h) : AAtS P ops n i s h K' := by
  unfold AAt at k
  unfold AAtS
  split at k
  · exact k.elim
  · rename_i o ho
    rw [ho]
    exact wantedThen_mono (fun k => (astep_sound (o := o) (st := ⟨n, s, h⟩) k).mono fun x h' k' => hk _ _ k') (fun k => hk _ _ k) k
theorem aqat_mono {i : Nat} {s : Slots} {h : AHeap} {K K' : Slots → Prop} (k : AQAt P ops n i s h K) (hk : ∀ s, K s → K' s) : AQAt P ops n i s h K' := by
  unfold AQAt at k ⊢
  split at k
  · exact k.elim
  · refine wantedThen_mono (fun k => ?_) (fun k => hk _ k) k
    unfold bindQ at k ⊢
    split at k
    · exact hk _ k
    · exact k.elim
theorem tree_graft {u : Reg.Tree} {K : Slots → AHeap → Prop} : ∀ {t : Reg.Tree} {s : Slots} {h : AHeap}, ATree P ops n t s h (fun s h => ATreeS P ops n u s h K) → ATreeS P ops n (graft u t) s h K
  | .done, s, h, k => by unfold ATree at k; exact k
  | .a i r, s, h, k => by unfold ATree at k; exact aat_s k fun s h k => tree_graft k
  | .q i r, s, h, k => by unfold ATree at k; exact aqat_mono k fun s k => tree_graft k
  | .two i j r t, s, h, k => by unfold ATree at k; exact ⟨aat_s k.1 fun s h k => tree_graft k, aat_s k.2 fun s h k => tree_graft k⟩
  | .three i j q r t v, s, h, k => by unfold ATree at k; exact ⟨aat_s k.1 fun s h k => tree_graft k, aat_s k.2.1 fun s h k => tree_graft k, aat_s k.2.2 fun s h k => tree_graft k⟩
theorem graft_done : ∀ (t : Reg.Tree), graft .done t = t
  | .done => rfl
  | .a i r => by rw [graft, graft_done r]
  | .q i r => by rw [graft, graft_done r]
  | .two i j r t => by rw [graft, graft_done r, graft_done t]
  | .three i j k r t v => by rw [graft, graft_done r, graft_done t, graft_done v]
theorem tree_s {t : Reg.Tree} {s : Slots} {h : AHeap} {K : Slots → AHeap → Prop} (k : ATree P ops n t s h K) : ATreeS P ops n t s h K := by
  have := tree_graft (P := P) (u := .done) (K := K) (t := t) (s := s) (h := h) k
  rwa [graft_done] at this
variable {Q : Exit → Act → World → Prop}
theorem aatS_sound {w0 : World} {i m : Nat} {s : Slots} {h : AHeap} {g : Ghost} {w : World} {a : Act} {K : Slots → AHeap → Prop} {listed : Array Bool} (k : AAtS P ops n i s h K) (r : StRel g ⟨n, s, h⟩ a) (S : Sim w0 g h w)
    (next : ∀ s g' a' w' h', g.le g' → StRel g' ⟨n, s, h'⟩ a' → Sim w0 g' h' w' → K s h' → wpAnyH P .any ops Q (Agree g') m listed a' w') :
    wpOp P ops Q i (fun a' w' => Agree g w' ∧ wpAnyH P .any ops Q (Agree g) m listed a' w') a w := by
  unfold AAtS at k
  split at k
  · exact k.elim
  · rename_i o ho
    unfold wpOp
    simp only [ho]
    rcases wanted_of (st := ⟨n, s, h⟩) r k with ⟨hwt, hy⟩ | ⟨hwt, hno⟩
    · rw [if_pos hwt]
      refine .inl (hy w0 g w a r S _ Q fun v w' g' x h' l hv S' hk => ?_)
      have low : ∀ w2, Agree g' w2 → Agree g w2 := fun w2 h2 b o v e => h2 b o v (l.imm b o v e)
      exact ⟨low _ S'.agree, wpAnyH_mono low _ _ _ _ (next _ g' _ w' h' l ((r.mono l).put o.dst hv h') S' hk)⟩
    · rw [if_neg (by simp [hwt])]
      exact ⟨S.agree, next _ g _ w h (.refl g) (r.put o.dst (void_rel g) h) S hno⟩
theorem atreeS_sound {w0 : World} {K : Slots → AHeap → Prop} (hsel : Region.noSelect ops = true) (hQ : ∀ d c a v w, Q (.panic c) (a.put d v) w → Q (.panic c) a w) :
    ∀ (t : Reg.Tree) (m : Nat) (listed : Array Bool) (s : Slots) (h : AHeap) (g : Ghost) (w : World) (a : Act), Reg.treeB ops t m listed = true → ATreeS P ops n t s h K → StRel g ⟨n, s, h⟩ a → Sim w0 g h w →
      (∀ s g' a' w' h', g.le g' → StRel g' ⟨n, s, h'⟩ a' → Sim w0 g' h' w' → K s h' → Q .normal a' w') → wpAnyH P .any ops Q (Agree g) m listed a w
  | .done, m, listed, s, h, g, w, a, hB, k, r, S, hn => by
    simp only [Reg.treeB, Bool.and_eq_true, beq_iff_eq] at hB
    exact wpAnyH_done (by simpa using hB.2) (hn s g a w h (.refl g) r S k) _
  | .a i t, 0, listed, s, h, g, w, a, hB, k, r, S, hn => by simp [Reg.treeB] at hB
  | .a i t, m + 1, listed, s, h, g, w, a, hB, k, r, S, hn => by
    simp only [Reg.treeB, Bool.and_eq_true, beq_iff_eq] at hB
    refine wpAnyH_all (rs := [i]) hB.1 (by simp) fun j hj => ?_
    obtain rfl : j = i := by simpa using hj
    exact aatS_sound k r S fun s g' a' w' h' l r' S' k' => atreeS_sound hsel hQ t m _ s h' g' w' a' hB.2 k' r' S' fun s2 g2 a2 w2 h2 l2 => hn s2 g2 a2 w2 h2 (l.trans l2)
  | .q i t, 0, listed, s, h, g, w, a, hB, k, r, S, hn => by simp [Reg.treeB] at hB
  | .q i t, m + 1, listed, s, h, g, w, a, hB, k, r, S, hn => by
    simp only [Reg.treeB, Bool.and_eq_true] at hB
    unfold ATreeS AQAt at k
    split at k
    · exact k.elim
    · rename_i o ho
      rcases wanted_of (st := ⟨n, s, h⟩) r k with ⟨hwt, hy⟩ | ⟨hwt, hno⟩
      · unfold bindQ at hy
        split at hy
        · rename_i x hx
          obtain ⟨v, hv, hr⟩ := aqS_sound (o := o) (st := ⟨n, s, h⟩) hx r S
          exact wpAnyH_take ho hsel hB.1.2 hB.1.1 (fun c a' w' h' => hQ _ c a' _ w' h') (.inl ⟨hwt, hr⟩) S.agree (atreeS_sound hsel hQ t m _ _ h g w _ hB.2 hy (r.put o.dst hv h) S hn)
        · exact hy.elim
      · exact wpAnyH_take ho hsel hB.1.2 hB.1.1 (fun c a' w' h' => hQ _ c a' _ w' h') (.inr ⟨hwt, rfl⟩) S.agree (atreeS_sound hsel hQ t m _ _ h g w _ hB.2 hno (r.put o.dst (void_rel g) h) S hn)
  | .two i j t u, 0, listed, s, h, g, w, a, hB, k, r, S, hn => by simp [Reg.treeB] at hB
  | .two i j t u, m + 1, listed, s, h, g, w, a, hB, k, r, S, hn => by
    simp only [Reg.treeB, Bool.and_eq_true, beq_iff_eq] at hB
    refine wpAnyH_all (rs := [i, j]) hB.1.1 (by simp) fun q hq => ?_
    have hq : q = i ∨ q = j := by simpa using hq
    rcases hq with rfl | rfl
    · exact aatS_sound k.1 r S fun s g' a' w' h' l r' S' k' => atreeS_sound hsel hQ t m _ s h' g' w' a' hB.1.2 k' r' S' fun s2 g2 a2 w2 h2 l2 => hn s2 g2 a2 w2 h2 (l.trans l2)
    · exact aatS_sound k.2 r S fun s g' a' w' h' l r' S' k' => atreeS_sound hsel hQ u m _ s h' g' w' a' hB.2 k' r' S' fun s2 g2 a2 w2 h2 l2 => hn s2 g2 a2 w2 h2 (l.trans l2)
  | .three i j k1 t u v, 0, listed, s, h, g, w, a, hB, k, r, S, hn => by simp [Reg.treeB] at hB
  | .three i j k1 t u v, m + 1, listed, s, h, g, w, a, hB, k, r, S, hn => by
    simp only [Reg.treeB, Bool.and_eq_true, beq_iff_eq] at hB
    refine wpAnyH_all (rs := [i, j, k1]) hB.1.1.1 (by simp) fun q hq => ?_
    have hq : q = i ∨ q = j ∨ q = k1 := by simpa using hq
    rcases hq with rfl | rfl | rfl
    · exact aatS_sound k.1 r S fun s g' a' w' h' l r' S' k' => atreeS_sound hsel hQ t m _ s h' g' w' a' hB.1.1.2 k' r' S' fun s2 g2 a2 w2 h2 l2 => hn s2 g2 a2 w2 h2 (l.trans l2)
    · exact aatS_sound k.2.1 r S fun s g' a' w' h' l r' S' k' => atreeS_sound hsel hQ u m _ s h' g' w' a' hB.1.2 k' r' S' fun s2 g2 a2 w2 h2 l2 => hn s2 g2 a2 w2 h2 (l.trans l2)
    · exact aatS_sound k.2.2 r S fun s g' a' w' h' l r' S' k' => atreeS_sound hsel hQ v m _ s h' g' w' a' hB.2 k' r' S' fun s2 g2 a2 w2 h2 l2 => hn s2 g2 a2 w2 h2 (l.trans l2)
end
theorem awp_drawS {P : Program} {E : Env P} {id : Nat} {l : List Oper} {Q : Post} {n : Nat} {s : Slots} {h : AHeap} (t : Reg.Tree) (hm : P.follows .mixedOrders = true)
    (hB : (Region.noSelect l.toArray && Reg.treeB l.toArray t l.length (Array.replicate l.length false)) = true)
    (k : ATreeS P l.toArray n t s h fun s h => Q .normal ⟨n, s, h⟩) (hro : E.ro = none := by rfl) : AWP E (.region id l.toArray true) Q ⟨n, s, h⟩ := by
  have key : AWP E (.region id l.toArray true) (fun e st => e = .normal ∧ st.n = n ∧ Q .normal ⟨n, st.s, st.h⟩) ⟨n, s, h⟩ := fun m w0 g w a hC r S => by
    simp only [Bool.and_eq_true] at hB
    rw [hro]
    refine wpIn_wide.2 (wp_region_held (S := Agree g) hm ?_)
    have := atreeS_sound (w0 := w0) (Q := Stands w0 g (fun e st => e = .normal ∧ st.n = n ∧ Q .normal ⟨n, st.s, st.h⟩)) hB.1 (fun d c a v w hh => by obtain ⟨st, g', l, r, S, h1, _⟩ := hh; cases h1) t _ _ s h g w.drew a hB.2 k r S.drew
      (fun s g' a' w' h' l' r' S' k' => ⟨⟨n, s, h'⟩, g', l', r', S', rfl, rfl, k'⟩)
    simpa using this
  exact AWP.mono key fun e st ⟨h1, h2, h3⟩ => by subst h1; subst h2; exact h3
/-- The append in such a region, and what is behind it. -/
theorem treeS_append {P : Program} {ops : Array Oper} {n i : Nat} {u : Reg.Tree} {s : Slots} {h : AHeap} {K : Slots → AHeap → Prop} {o : Oper} {t t2 e : TypeId} {x y : Operand} {k by_ m c : Nat} {zc cs : List AV} {z : AV}
    (ho : ops[i]? = some o) (hop : o.op = .call ⟨.builtin .append, #[x, y], #[t, t2]⟩) (hg : o.guard = none) (ht : P.underlying t = some (.slice e)) (hs : sizeT P e = some k) (hb : bytesT P e = some by_) (hz : zeroCells P e = some zc) (hzl : zc.length = k) (hk : 0 < k)
    (hzk : z.cells.length = k) (h1 : onesL [z] = true) (hx : RowAt h k (Slots.ev s x) m c cs) (hy : newsA P t2 e (Slots.ev s y) = some [z]) (hbb : (m + 1) * by_ ≤ 140737488355328) (h63 : m + 1 ≤ 140737488355328)
    (k0 : Grown h k (Slots.ev s x) m c cs z fun r h' => ATreeS P ops n u (Slots.put n s o.dst r) h' K) : ATreeS P ops n (.a i u) s h K := by
  unfold ATreeS AAtS
  rw [ho]
  have hgb : guardB ops s o = .bool true := by unfold guardB; rw [hg]
  simp only [hgb, wantedThen, if_true]
  intro w0 g w a r S next Q hn
  obtain ⟨q, h', hq, v, w', g', hr, l, hv, S'⟩ := append_k (P := P) (t2 := t2) (ty := o.type) S ht hs hb hz hzl hk hzk h1 hx hy hbb h63 (r.ev x) (r.ev y) k0
  unfold Oper.wp
  have hex : execOp a.eval o = (do let r ← Builtin.append_ #[t, t2] o.type #[a.eval x, a.eval y]; pure (Next.value r) : Sem Next) := by simp [execOp, hop, resolve, invoke, builtin]
  rw [hex, Sem.run_bind, hr]
  exact hn v w' g' q h' l hv S' hq
end Go.Proofs.Ytajgeofhlgoifaa.V
