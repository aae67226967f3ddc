/- A map that is only read (it may lie below the base): lookup. Append of a slice whose cells turn to nothing. No program is named here. -/
import Derived.Test.YtajgeofhlgoifaaV34
import Derived.Test.YtajgeofhlgoifaaV35
set_option linter.unusedVariables false
set_option linter.unusedSimpArgs false
namespace Go.Proofs.Ytajgeofhlgoifaa.V
open Go Go.RowKit
def rmapO {α : Type} (kf : α → AV) (es : Ents α) (clock : Nat) : AObj := .rmap (es.map fun p => (kf p.1, p.2.1, p.2.2)) clock
section
variable {P : Program} {E : Env P} {w0 w : World} {g : Ghost} {h : AHeap} {α : Type} [DecidableEq α] {kf : α → AV} {kv : α → Value} {kt : TypeId}
theorem rmapO_block {es : Ents α} {clock : Nat} (K : KeyFor P kt kf kv) (S : Sim w0 g h w) {id b : Nat} (ho : h[id]? = some (rmapO kf es clock)) (hb : g.at_ id = .blk b) :
    ∃ ces, w.heap[b]? = some (.map ces clock) ∧ es.length = ces.size ∧ ∀ i (h : i < es.length) (h' : i < ces.size), ces[i].key = kv es[i].1 ∧ VRel g es[i].2.1 ces[i].val ∧ es[i].2.2 = ces[i].born := by
  have hO := S.obj id _ ho
  rw [hb] at hO
  obtain ⟨ces, h2, h3, h4⟩ := hO
  refine ⟨ces, h2, by simpa using h3, fun i hi hi' => ?_⟩
  have := h4 i (by simpa using hi) hi'
  simp only [List.getElem_map] at this
  exact ⟨K.rel this.1, this.2.1, this.2.2⟩
theorem look_rmap (K : KeyFor P kt kf kv) (S : Sim w0 g h w) {mty et : TypeId} {id clock : Nat} {es : Ents α} {k : α} {z : AV} (hm : P.underlying mty = some (.map kt et)) (hz : ∀ w, ∃ v, (zeroValue et).run P w = .ok v w ∧ VRel g z v)
    (ho : h[id]? = some (rmapO kf es clock)) {vm vk : Value} (rm : VRel g (.map id) vm) (rk : VRel g (kf k) vk) :
    Gives P w0 g w (lookE z k es) h (Instr.lookup mty vm vk false) := by
  obtain ⟨hid, b, hb, rfl⟩ := map_eq rm
  obtain rfl := K.rel rk
  obtain ⟨ces, h2, hl, he⟩ := rmapO_block K S ho hb
  obtain ⟨f1, f2⟩ := findKey_run K k w ces.toList es (by simpa using hl.symm) fun i h1 h2 => by simpa using (he i h2 (by simpa using h1)).1
  have hck := fun e => K.ck e k w
  obtain ⟨zv, hzv, hzr⟩ := hz w
  cases hk : keyAt k es with
  | none =>
    have hf := f1 hk
    have hle : lookE z k es = z := by unfold lookE; rw [hk]
    rw [hle]
    exact ⟨zv, w, g, by simp [Instr.lookup, run_underlying hm, Go.MapKept.run_getObj_map h2, hck, hf, hzv, Result.andThen], .refl g, hzr, S⟩
  | some j =>
    obtain ⟨hj, hf⟩ := f2 j hk
    obtain ⟨hj2, hkj⟩ := keyAt_some hk
    have hjc : j < ces.size := by omega
    have hr := (he j hj2 hjc).2.1
    have hle : lookE z k es = es[j].2.1 := by unfold lookE; rw [hk]; simp [hj2]
    rw [hle]
    exact ⟨ces[j].val, w, g, by simp [Instr.lookup, run_underlying hm, Go.MapKept.run_getObj_map h2, hck, hf, Result.andThen], .refl g, hr, S⟩
end
theorem aats_lookR {P : Program} {ops : Array Oper} {n i : Nat} {s : Slots} {h : AHeap} {K : Slots → AHeap → Prop} {o : Oper} {α : Type} [DecidableEq α] {kf : α → AV} {kv : α → Value} {kt mty et : TypeId} {id clock : Nat} {es : Ents α} {k : α} {m kx : Operand} {z : AV} (K0 : KeyFor P kt kf kv)
    (ho : ops[i]? = some o) (hop : o.op = .lookup mty m kx false) (hg : guardB ops s o = .bool true) (hm : P.underlying mty = some (.map kt et)) (hz : ∀ (g : Ghost) (w : World), ∃ v, (zeroValue et).run P w = .ok v w ∧ VRel g z v) (hx : Slots.ev s m = .map id) (hk : Slots.ev s kx = kf k) (hoo : h[id]? = some (rmapO kf es clock))
    (k0 : K (Slots.put n s o.dst (lookE z k es)) h) : AAtS P ops n i s h K := by
  unfold AAtS
  rw [ho]
  simp only [hg, wantedThen, if_true]
  intro w0 g w a r S next Q hn
  have rm := r.ev m
  have rk := r.ev kx
  simp only at rm rk
  rw [hx] at rm
  rw [hk] at rk
  obtain ⟨v, w', g', hr, l, hv, S'⟩ := look_rmap (P := P) K0 S hm (hz g) hoo rm rk
  unfold Oper.wp
  have hex : execOp a.eval o = (do let r ← Instr.lookup mty (a.eval m) (a.eval kx) false; pure (Next.value r) : Sem Next) := by simp [execOp, hop]
  rw [hex, Sem.run_bind, hr]
  exact hn v w' g' _ h l hv S' k0
theorem aats_look {P : Program} {ops : Array Oper} {n i : Nat} {s : Slots} {h : AHeap} {K : Slots → AHeap → Prop} {o : Oper} {α : Type} [DecidableEq α] {kf : α → AV} {kv : α → Value} {kt mty et : TypeId} {id clock : Nat} {es : Ents α} {k : α} {m kx : Operand} {z : AV} (K0 : KeyFor P kt kf kv)
    (ho : ops[i]? = some o) (hop : o.op = .lookup mty m kx false) (hg : guardB ops s o = .bool true) (hm : P.underlying mty = some (.map kt et)) (hz : ∀ (g : Ghost) (w : World), ∃ v, (zeroValue et).run P w = .ok v w ∧ VRel g z v) (hx : Slots.ev s m = .map id) (hk : Slots.ev s kx = kf k) (hoo : h[id]? = some (mapO kf es clock))
    (k0 : K (Slots.put n s o.dst (lookE z k es)) h) : AAtS P ops n i s h K := by
  unfold AAtS
  rw [ho]
  simp only [hg, wantedThen, if_true]
  intro w0 g w a r S next Q hn
  have rm := r.ev m
  have rk := r.ev kx
  simp only at rm rk
  rw [hx] at rm
  rw [hk] at rk
  obtain ⟨v, w', g', hr, l, hv, S'⟩ := look_map (P := P) K0 S false hm (hz g) hoo rm rk
  unfold Oper.wp
  have hex : execOp a.eval o = (do let r ← Instr.lookup mty (a.eval m) (a.eval kx) false; pure (Next.value r) : Sem Next) := by simp [execOp, hop]
  rw [hex, Sem.run_bind, hr]
  exact hn v w' g' _ h l hv S' k0
section
variable {P : Program} {E : Env P} {w0 w : World} {g : Ghost} {h : AHeap}
/-- What is appended, as this world has it. -/
structure NewsW (P : Program) (g : Ghost) (w : World) (k : Nat) (x : Value) (ys : List AV) (news : List Value) : Prop where
  len : ∀ w, (Builtin.lenOf x).run P w = .ok ys.length w
  cells : (Builtin.firstCells k ys.length x).run P w.drew = .ok news.toArray w.drew
  size : news.length = ys.length * k
  rel : CellsRel g (ys.flatMap AV.cells) news
theorem append_growW (t t2 ty e : TypeId) {k : Nat} {i : TypeInfo} {z : Value} (ht : P.underlying t = some (.slice e)) (hs : sizeT P e = some k) (hi : P.info? e = some i) (hz : i.zero = some z) (ht2 : ∃ e2, P.underlying t2 = some (.slice e2))
    {A : Option Addr} {n c : Nat} {x : Value} {ys : List AV} {news olds : List Value} (N : NewsW P g w k x ys news) (hr : c < n + ys.length)
    (ho : (Builtin.firstCells k n (.slice A n c)).run P w.drew = .ok olds.toArray w.drew) (hb : (n + ys.length) * i.bytes ≤ 140737488355328) (h63 : n + ys.length ≤ 140737488355328) :
    (Builtin.append_ #[t, t2] ty #[.slice A n c, x]).run P w = .ok (.slice (some ⟨w.heap.size, 0, none⟩) (n + ys.length) (grownCap w (n + ys.length) c e))
        (w.drew.alloc (.cells (olds ++ news ++ (Builtin.zeroCells z.cells (grownCap w (n + ys.length) c e - (n + ys.length))).toList).toArray e)) := by
  have hn : ¬ (n + ys.length ≤ c) := by omega
  have h63' : ¬ (9223372036854775807 < ((n : Int) + (ys.length : Int))) := by omega
  have hfit := growslice_fits hr hb
  have h48' : ¬ (281474976710656 < Builtin.nextslicecap (n + ys.length) c * i.bytes) := by omega
  have hnc := N.cells
  have hsz : i.size = k := by simpa [sizeT, hi] using hs
  subst hsz
  obtain ⟨e2, ht2⟩ := ht2
  simp [Builtin.append_, run_underlying ht, run_underlying ht2, sizeOf, typeInfo, zeroValue, hi, hz, N.len, hn, h63', h48', Question.forced, hnc, ho, newRow, grownCap]
  try (congr 2; apply Array.ext'; simp [List.append_assoc])
theorem append_part (S : Sim w0 g h w) {t t2 ty e : TypeId} {k by_ id off m c2 : Nat} {zc cs ys : List AV} {vx vy : Value} (ht : P.underlying t = some (.slice e)) (hs : sizeT P e = some k) (hb : bytesT P e = some by_) (hz : zeroCells P e = some zc) (hzl : zc.length = k) (hk : 0 < k)
    (ht2 : ∃ e2, P.underlying t2 = some (.slice e2)) (ho : h[id]? = some (.cells cs)) (hm : 0 < m) (hys : ys.length = m) (hu : uni k ys = true) (hcl : off + m * k ≤ cs.length) (hf : ys.flatMap AV.cells = (cs.drop off).take (m * k)) (hbb : m * by_ ≤ 140737488355328) (h63 : m ≤ 140737488355328)
    (rx : VRel g (.list [] .full) vx) (ry : VRel g (.arr id off m c2) vy) :
    ∃ (c' : Nat) (u : List AV), m ≤ c' ∧ u.length = (c' - m) * k ∧ Gives P w0 g w (.arr h.length 0 m c') (h ++ [.cells ((cs.drop off).take (m * k) ++ u)]) (Builtin.append_ #[t, t2] ty #[vx, vy]) := by
  obtain ⟨A, c, rfl, _, _, hnn, htok, hL⟩ := rx.list_eq
  obtain rfl : c = 0 := htok
  obtain ⟨hid, b, o, hb', hc2, hm2, ho0, rfl⟩ := ry.arr_eq
  obtain rfl := ho0 (by omega)
  obtain ⟨hbase, vs, tt, h2, h3, h4⟩ := block_cells S ho hb'
  have hlen : cs.length = vs.size := by simpa using h3.1
  subst hys
  have hnl : ((vs.toList.drop o).take (ys.length * k)).length = ys.length * k := by simp; omega
  have hN : NewsW P g w k (.slice (some ⟨b, o, none⟩) ys.length c2) ys ((vs.toList.drop o).take (ys.length * k)) := by
    refine ⟨fun w => rfl, ?_, hnl, ?_⟩
    · refine run_firstCells_some (P := P) w.drew k ys.length ⟨b, o, none⟩ ys.length c2 _ hnl fun q v hq => ?_
      rw [Addr.add_lit, cell_of_row w.drew _ _ _ _ _ h2]
      rw [List.getElem?_take] at hq
      split at hq
      · rw [List.getElem?_drop] at hq; simpa using hq
      · cases hq
    · rw [hf]
      refine ⟨by simp; omega, fun i a b => ?_⟩
      rw [List.getElem_take, List.getElem_take, List.getElem_drop, List.getElem_drop]
      exact h3.2 _ _ _
  have hf0 : (Builtin.firstCells k 0 (.slice A 0 0)).run P w.drew = .ok ([] : List Value).toArray w.drew := by
    obtain ⟨b, o, u, L⟩ := hL k (by rfl)
    have := L.first (P := P) hk (by intro; rfl) (Nat.le_refl _) w.drew S.drew.agree
    simpa using this
  obtain ⟨it, zv, hi, hzv, hzr⟩ := zeroCells_spec (P := P) (g := g) hz
  have hby : it.bytes = by_ := by simpa [bytesT, hi] using hb
  have hzs : zv.cells.size = k := by have := hzr.1; simp at this; omega
  have hrun := append_growW (P := P) (g := g) (w := w) t t2 ty e ht hs hi hzv ht2 hN (c := 0) (n := 0) (A := A) (by omega) hf0 (by rw [hby]; simpa using hbb) (by simpa using h63)
  have hcap1 := grownCap_ge w (0 + ys.length) 0 e
  have hcap2 := grownCap_le_maxLen w (0 + ys.length) 0 e (by unfold maxLen; omega)
  generalize hcap : grownCap w (0 + ys.length) 0 e = cap at hrun hcap1 hcap2
  have hzl2 : (Builtin.zeroCells zv.cells (cap - (0 + ys.length))).size = (cap - (0 + ys.length)) * k := by rw [size_zeroCells, hzs]
  have hc : CellsRel g ((cs.drop o).take (ys.length * k) ++ List.replicate ((cap - ys.length) * k) .undef) (([] : List Value) ++ (vs.toList.drop o).take (ys.length * k) ++ (Builtin.zeroCells zv.cells (cap - (0 + ys.length))).toList).toArray.toList := by
    simp only [List.toList_toArray, List.nil_append]
    refine CellsRel.append (hf ▸ hN.rel) ⟨by simp only [Nat.zero_add] at hzl2 ⊢; simp [hzl2], fun i h1 h2 => ?_⟩
    rw [List.getElem_replicate]; exact .undef _
  simp only [Nat.zero_add] at hrun hcap1 hc
  have hne : 0 < cap := by omega
  obtain ⟨l, S', r⟩ := new_obj (w := w.drew) S.drew e hc
  refine ⟨cap, _, hcap1, by simp, _, _, _, hrun, l, ?_, S'⟩
  exact .arr _ _ _ _ _ _ (by rw [S.n]; exact Nat.lt_succ_self _) (by rw [S.n]; exact Ghost.push_at g _) hcap1 hcap2 (fun _ => rfl)
end
theorem aops_append_part {P : Program} {E : Env P} {ops : Array Oper} {o : Oper} {r : List Oper} {n : Nat} {s : Slots} {h : AHeap} {K : ASt → Prop} {t t2 e : TypeId} {x y : Operand} {k by_ id off m c2 : Nat} {zc cs ys : List AV}
    (hop : o.op = .call ⟨.builtin .append, #[x, y], #[t, t2]⟩) (hg : o.guard = none) (ht : P.underlying t = some (.slice e)) (hs : sizeT P e = some k) (hb : bytesT P e = some by_) (hz : zeroCells P e = some zc) (hzl : zc.length = k) (hk : 0 < k)
    (ht2 : ∃ e2, P.underlying t2 = some (.slice e2)) (hx : Slots.ev s x = .list [] .full) (hy : Slots.ev s y = .arr id off m c2) (ho : h[id]? = some (.cells cs)) (hm : 0 < m) (hys : ys.length = m) (hu : uni k ys = true) (hcl : off + m * k ≤ cs.length) (hf : ys.flatMap AV.cells = (cs.drop off).take (m * k))
    (hbb : m * by_ ≤ 140737488355328) (h63 : m ≤ 140737488355328)
    (k0 : ∀ c' (u : List AV), m ≤ c' → u.length = (c' - m) * k → AOps E ops r ⟨n, Slots.put n s o.dst (.arr h.length 0 m c'), h ++ [.cells ((cs.drop off).take (m * k) ++ u)]⟩ K) : AOps E ops (o :: r) ⟨n, s, h⟩ K :=
  aops_one hg (aope_of_gives (s := fun a => Builtin.append_ #[t, t2] o.type #[a.eval x, a.eval y]) (fun a => by simp [execOp, hop, resolve, invoke, builtin]) (fun c => by rw [hop]; simp) fun w0 g w a ra S => by
    have rx := ra.ev x
    have ry := ra.ev y
    simp only at rx ry
    rw [hx] at rx
    rw [hy] at ry
    obtain ⟨c', u, e1, e2, G⟩ := append_part (P := P) (t2 := t2) (ty := o.type) S ht hs hb hz hzl hk ht2 ho hm hys hu hcl hf hbb h63 rx ry
    exact ⟨_, _, k0 c' u e1 e2, G⟩)
theorem aops_oneG {P : Program} {E : Env P} {ops : Array Oper} {o : Oper} {r : List Oper} {st : ASt} {K : ASt → Prop} (hg : guardB ops st.s o = .bool true) (k : AOpE E o st fun x h => AOps E ops r ⟨st.n, Slots.put st.n st.s o.dst x, h⟩ K) : AOps E ops (o :: r) st K := by
  unfold AOps
  rw [hg]
  exact k
/-- A look into a map, where it is guarded. -/
theorem aops_lookG {P : Program} {E : Env P} {ops : Array Oper} {o : Oper} {r : List Oper} {n : Nat} {s : Slots} {h : AHeap} {Q : ASt → Prop} {α : Type} [DecidableEq α] {kf : α → AV} {kv : α → Value} {kt mty et : TypeId} {id clock : Nat} {es : Ents α} {k : α} {m kx : Operand} {z : AV} {c : Bool} (K : KeyFor P kt kf kv) (hop : o.op = .lookup mty m kx c) (hg : guardB ops s o = .bool true)
    (hm : P.underlying mty = some (.map kt et)) (hz : ∀ (g : Ghost) (w : World), ∃ v, (zeroValue et).run P w = .ok v w ∧ VRel g z v) (hx : Slots.ev s m = .map id) (hk : Slots.ev s kx = kf k) (ho : h[id]? = some (mapO kf es clock))
    (q : AOps E ops r ⟨n, Slots.put n s o.dst (if c then .tuple [lookE z k es, .bool (keyAt k es).isSome] else lookE z k es), h⟩ Q) : AOps E ops (o :: r) ⟨n, s, h⟩ Q :=
  aops_oneG hg (aope_of_gives (s := fun a => Instr.lookup mty (a.eval m) (a.eval kx) c) (fun a => by simp [execOp, hop]) (fun c => by rw [hop]; simp) fun w0 g w a ra S => by
    have rm := ra.ev m
    have rk := ra.ev kx
    simp only at rm rk
    rw [hx] at rm
    rw [hk] at rk
    exact ⟨_, _, q, look_map K S c hm (hz g) ho rm rk⟩)
end Go.Proofs.Ytajgeofhlgoifaa.V
