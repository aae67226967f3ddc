/- Slices that grow, and whose cells turn, of any size: append of a list. No program is named here. -/
import Derived.Test.YtajgeofhlgoifaaV29
import Derived.Test.YtajgeofhlgoifaaV30
set_option linter.unusedVariables false
set_option linter.unusedSimpArgs false
namespace Go.Proofs.Ytajgeofhlgoifaa.V
open Go Go.RowKit
section
variable {P : Program} {E : Env P} {w0 w : World} {g : Ghost} {h : AHeap}
theorem uni_len {k : Nat} {ys : List AV} (hu : uni k ys = true) {j : Nat} (hj : j < ys.length) : ys[j].cells.length = k := by
  unfold uni at hu
  rw [List.all_eq_true] at hu
  simpa using hu ys[j] (List.getElem_mem hj)
theorem news_rel {k : Nat} {ys : List AV} {vy : Value} {news : List Value} (hk : 0 < k) (hu : uni k ys = true) (N : NewsAt P g k vy ys news) : CellsRel g (ys.flatMap AV.cells) news := by
  have hl := flatk_len ys hu
  refine ⟨by rw [hl, N.size], fun p h1 h2 => ?_⟩
  rw [hl] at h1
  have hj : p / k < ys.length := Nat.div_lt_of_lt_mul (by rw [Nat.mul_comm]; exact h1)
  have hi : p % k < k := Nat.mod_lt _ hk
  have hp : p / k * k + p % k = p := by rw [Nat.mul_comm]; exact Nat.div_add_mod p k
  have hc := uni_len hu hj
  have hr := N.rel (p / k) hj (p % k) (by omega)
  rw [hp] at hr
  have hg := flatk_get hk ys hu (p / k) (p % k) hi
  rw [hp, List.getElem?_eq_getElem hj, List.getElem?_eq_getElem (by rw [hl]; exact h1)] at hg
  simp only [Option.bind_some, List.getElem?_eq_getElem (show p % k < ys[p / k].cells.length by omega)] at hg
  injection hg with hg
  rw [hg]
  simpa [List.getD_eq_getElem?_getD, List.getElem?_eq_getElem h2] using hr
/-- What may come of append of a list. -/
structure GrownS (h : AHeap) (k : Nat) (x : AV) (n c : Nat) (cs ys : List AV) (K : AV → AHeap → Prop) : Prop where
  room : n + ys.length ≤ c → ∀ id, x = .arr id 0 n c → K (.arr id 0 (n + ys.length) c) (h.set id (.cells (V.over cs (n * k) (ys.flatMap AV.cells))))
  none : x = .list [] .full → ys = [] → K (.list [] .full) h
  grow : c < n + ys.length → ∀ c' (u : List AV), n + ys.length ≤ c' → u.length = (c' - (n + ys.length)) * k → K (.arr h.length 0 (n + ys.length) c') (h ++ [.cells (cs.take (n * k) ++ ys.flatMap AV.cells ++ u)])
theorem grow_cases (S : Sim w0 g h w) {t t2 ty e : TypeId} {k by_ n c : Nat} {zc cs ys : List AV} {A : Option Addr} {vy : Value} {news olds : List Value} (ht : P.underlying t = some (.slice e)) (hs : sizeT P e = some k) (hb : bytesT P e = some by_) (hz : zeroCells P e = some zc) (hzl : zc.length = k) (hk : 0 < k)
    (hu : uni k ys = true) (ht2 : P.underlying t2 = some .string ∨ ∃ e2, P.underlying t2 = some (.slice e2)) (N : NewsAt P g k vy ys news) (hol : olds.length = n * k) (hcr : CellsRel g cs olds) (hlt : c < n + ys.length)
    (hf : (Builtin.firstCells k n (.slice A n c)).run P w.drew = .ok olds.toArray w.drew) (hbb : (n + ys.length) * by_ ≤ 140737488355328) (h63 : n + ys.length ≤ 140737488355328) :
    ∃ (c' : Nat) (u : List AV), n + ys.length ≤ c' ∧ u.length = (c' - (n + ys.length)) * k ∧ Gives P w0 g w (.arr h.length 0 (n + ys.length) c') (h ++ [.cells (cs ++ ys.flatMap AV.cells ++ u)]) (Builtin.append_ #[t, t2] ty #[.slice A n c, vy]) := by
  obtain ⟨it, zv, hi, hzv, hzr⟩ := zeroCells_spec (P := P) (g := g) hz
  have hby : it.bytes = by_ := by simpa [bytesT, hi] using hb
  have hzs : zv.cells.size = k := by have := hzr.1; simp at this; omega
  have hrun := append_grow (P := P) (g := g) (w := w) t t2 ty e ht hs hi hzv ht2 N S.agree (c := c) (n := n) (A := A) hlt hf (by rw [hby]; exact hbb) h63
  have hcap1 := grownCap_ge w (n + ys.length) c e
  have hcap2 := grownCap_le_maxLen w (n + ys.length) c e (by unfold maxLen; omega)
  generalize hcap : grownCap w (n + ys.length) c e = cap at hrun hcap1 hcap2
  have hnl : news.length = ys.length * k := N.size
  have hcl : cs.length = n * k := by rw [hcr.1, hol]
  have hzl2 : (Builtin.zeroCells zv.cells (cap - (n + ys.length))).size = (cap - (n + ys.length)) * k := by rw [size_zeroCells, hzs]
  have hsz : (olds ++ news ++ (Builtin.zeroCells zv.cells (cap - (n + ys.length))).toList).toArray.size = cap * k := by
    simp only [List.size_toArray, List.length_append, hol, hnl, Array.length_toList, hzl2]
    rw [← Nat.add_mul, ← Nat.add_mul]; congr 1; omega
  have hc : CellsRel g (cs ++ ys.flatMap AV.cells ++ List.replicate ((cap - (n + ys.length)) * k) .undef) (olds ++ news ++ (Builtin.zeroCells zv.cells (cap - (n + ys.length))).toList).toArray.toList := by
    simp only [List.toList_toArray]
    refine CellsRel.append (CellsRel.append hcr (news_rel hk hu N)) ⟨by simp [hzl2], fun i h1 h2 => ?_⟩
    rw [List.getElem_replicate]; exact .undef _
  have hne : 0 < cap := by omega
  obtain ⟨l, S', r⟩ := new_obj (w := w.drew) S.drew e hc
  refine ⟨cap, _, hcap1, by simp, _, _, _, hrun, l, ?_, S'⟩
  exact .arr _ _ _ _ _ _ (by rw [S.n]; exact Nat.lt_succ_self _) (by rw [S.n]; exact Ghost.push_at g _) hcap1 hcap2 (fun _ => rfl)
theorem append_ks (S : Sim w0 g h w) {t t2 ty e : TypeId} {k by_ n c : Nat} {zc cs ys : List AV} {x y : AV} {vx vy : Value} (ht : P.underlying t = some (.slice e)) (hs : sizeT P e = some k) (hb : bytesT P e = some by_) (hz : zeroCells P e = some zc) (hzl : zc.length = k) (hk : 0 < k)
    (hu : uni k ys = true) (h1 : onesL ys = true) (hx : RowAt h k x n c cs) (hy : newsA P t2 e y = some ys) (hbb : (n + ys.length) * by_ ≤ 140737488355328) (h63 : n + ys.length ≤ 140737488355328) (rx : VRel g x vx) (ry : VRel g y vy) {K : AV → AHeap → Prop} (k0 : GrownS h k x n c cs ys K) :
    ∃ r h', K r h' ∧ Gives P w0 g w r h' (Builtin.append_ #[t, t2] ty #[vx, vy]) := by
  obtain ⟨⟨news, N⟩, ht2⟩ := newsA_sound (P := P) (g := g) hy hs hk hu h1 ry
  obtain ⟨k1, k2, k3⟩ := k0
  cases hx with
  | nil =>
    obtain ⟨A, c, rfl, hc, hm, hnn, htok, hL⟩ := rx.list_eq
    obtain rfl : c = 0 := htok
    by_cases hy0 : ys = []
    · subst hy0
      have hrun := append_room (P := P) (g := g) (w := w) (A := A) (n := 0) (c := 0) t t2 ty e ht hs ht2 N S.agree (by simp)
      have hn0 : news = [] := List.eq_nil_of_length_eq_zero (by rw [N.size]; simp)
      subst hn0
      refine ⟨_, _, k2 rfl rfl, .slice A 0 0, w, g, ?_, .refl g, rx, S⟩
      refine Eq.trans hrun ?_
      cases A <;> simp [storeCells]
    · obtain ⟨b, o, u, L⟩ := hL k (by rfl)
      have hf : (Builtin.firstCells k 0 (.slice A 0 0)).run P w.drew = .ok ([] : List Value).toArray w.drew := by
        have := L.first (P := P) hk (by intro; rfl) (Nat.le_refl _) w.drew S.drew.agree
        simpa using this
      have hpos : 0 < 0 + ys.length := by have := List.length_pos_iff.2 hy0; omega
      obtain ⟨c', u2, e1, e2, G⟩ := grow_cases (P := P) (n := 0) (c := 0) (cs := []) (olds := []) (A := A) (t2 := t2) (ty := ty) S ht hs hb hz hzl hk hu ht2 N (by simp) (cells_nil' g) hpos hf hbb h63
      exact ⟨_, _, k3 hpos c' u2 e1 e2, by simpa using G⟩
  | arr id n c cs ho hc hn h0 =>
    obtain ⟨hid, b, o, hb', hc2, hm, ho0, rfl⟩ := rx.arr_eq
    obtain rfl := ho0 h0
    obtain ⟨hbase, vs, tt, h2, h3, h4⟩ := block_cells S ho hb'
    have hlen : cs.length = vs.size := by simpa using h3.1
    have hfl := flatk_len ys hu
    by_cases hnc : n + ys.length ≤ c
    · have hk1 := k1 hnc id rfl
      have hrun := append_room (P := P) (g := g) (w := w) (A := some ⟨b, 0, none⟩) (n := n) (c := c) t t2 ty e ht hs ht2 N S.agree hnc
      have hnl : news.length = ys.length * k := N.size
      have hmul : n * k + ys.length * k ≤ c * k := by
        have : (n + ys.length) * k ≤ c * k := Nat.mul_le_mul_right k hnc
        rwa [Nat.add_mul] at this
      have hst := run_storeCells_at P b (n * k) tt news 0 vs w h2 (by omega) N.one
      simp only [Nat.add_zero] at hst
      refine ⟨_, _, hk1, .slice (some ⟨b, 0, none⟩) (n + ys.length) c, w.setRow b (vs.toList.take (n * k) ++ news ++ vs.toList.drop (n * k + news.length)).toArray, g, ?_, .refl g, .arr _ _ _ _ _ _ hid hb' hnc hm (fun _ => rfl), ?_⟩
      · rw [hrun]
        simp only [Addr.add_lit, Nat.zero_add, Sem.run_bind, hst, Result.andThen_ok, Sem.run_pure]
      · have hr : (w.setRow b (vs.toList.take (n * k) ++ news ++ vs.toList.drop (n * k + news.length)).toArray).heap[b]? = some (.cells (vs.toList.take (n * k) ++ news ++ vs.toList.drop (n * k + news.length)).toArray tt (0, 0)) := setRow_heap w b vs _ tt _ h2
        refine S.turn (o' := .cells (V.over cs (n * k) (ys.flatMap AV.cells))) ho (by simp) (b := b) (by rw [hb']; rfl) (by simp [World.setRow]) rfl rfl rfl (fun k _ hk => setRow_other w b k _ hk) (fun o v e => by rw [h4 o] at e; cases e) (fun o v e => by rw [h4 o] at e; cases e) ?_
        rw [hb']
        refine ⟨hbase, ⟨_, tt, hr, ?_⟩, h4⟩
        have := h3.over (xs := ys.flatMap AV.cells) (us := news) (off := n * k) (news_rel hk hu N) (by rw [hfl]; omega)
        simpa using this
    · have hlt : c < n + ys.length := by omega
      have hmul : n * k ≤ c * k := Nat.mul_le_mul_right k hn
      have hf : (Builtin.firstCells k n (.slice (some ⟨b, 0, none⟩) n c)).run P w.drew = .ok (vs.toList.take (n * k)).toArray w.drew := by
        refine run_firstCells_some (P := P) w.drew k n ⟨b, 0, none⟩ n c _ (by simp; omega) fun q v hq => ?_
        rw [Addr.add_lit, Nat.zero_add]
        rw [cell_of_row w.drew _ _ _ _ _ h2]
        rw [List.getElem?_take] at hq
        split at hq
        · simpa using hq
        · cases hq
      have htk : CellsRel g (cs.take (n * k)) (vs.toList.take (n * k)) := ⟨by simp [hlen], fun i a b => by
        rw [List.getElem_take, List.getElem_take]
        exact h3.2 i _ _⟩
      obtain ⟨c', u2, e1, e2, G⟩ := grow_cases (P := P) (n := n) (c := c) (cs := cs.take (n * k)) (olds := vs.toList.take (n * k)) (A := some ⟨b, 0, none⟩) (t2 := t2) (ty := ty) S ht hs hb hz hzl hk hu ht2 N (by simp; omega) htk hlt hf hbb h63
      exact ⟨_, _, k3 hlt c' u2 e1 e2, G⟩
end
theorem aops_append_ks {P : Program} {E : Env P} {ops : Array Oper} {o : Oper} {r : List Oper} {n : Nat} {s : Slots} {h : AHeap} {K : ASt → Prop} {t t2 e : TypeId} {x y : Operand} {k by_ m c : Nat} {zc cs ys : List AV}
    (hop : o.op = .call ⟨.builtin .append, #[x, y], #[t, t2]⟩) (hg : o.guard = none) (ht : P.underlying t = some (.slice e)) (hs : sizeT P e = some k) (hb : bytesT P e = some by_) (hz : zeroCells P e = some zc) (hzl : zc.length = k) (hk : 0 < k)
    (hu : uni k ys = true) (h1 : onesL ys = true) (hx : RowAt h k (Slots.ev s x) m c cs) (hy : newsA P t2 e (Slots.ev s y) = some ys) (hbb : (m + ys.length) * by_ ≤ 140737488355328) (h63 : m + ys.length ≤ 140737488355328)
    (k0 : GrownS h k (Slots.ev s x) m c cs ys fun a h' => AOps E ops r ⟨n, Slots.put n s o.dst a, h'⟩ K) : AOps E ops (o :: r) ⟨n, s, h⟩ K :=
  aops_one hg (aope_of_gives (s := fun a => Builtin.append_ #[t, t2] o.type #[a.eval x, a.eval y]) (fun a => by simp [execOp, hop, resolve, invoke, builtin]) (fun c => by rw [hop]; simp) fun w0 g w a ra S => by
    obtain ⟨q, h', hq, G⟩ := append_ks (P := P) (t2 := t2) (ty := o.type) S ht hs hb hz hzl hk hu h1 hx hy hbb h63 (ra.ev x) (ra.ev y) k0
    exact ⟨q, h', hq, G⟩)
end Go.Proofs.Ytajgeofhlgoifaa.V
