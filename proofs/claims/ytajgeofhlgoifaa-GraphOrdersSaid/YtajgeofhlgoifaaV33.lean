/- Maps by keys that are structs: what is in one, what is put into one. No program is named here. -/
import Derived.Test.YtajgeofhlgoifaaV26
import Derived.Maps.RangeRun
set_option linter.unusedVariables false
set_option linter.unusedSimpArgs false
namespace Go.Proofs.Ytajgeofhlgoifaa.V
open Go Go.RowKit Go.MapKept
/-- What is asked of a map's keys. -/
structure KeyFor (P : Program) (kt : TypeId) {α : Type} [DecidableEq α] (kf : α → AV) (kv : α → Value) : Prop where
  rel : ∀ {g : Ghost} {v : Value} {a : α}, VRel g (kf a) v → v = kv a
  eq : ∀ a b (w : World), (Op.equal kt (kv a) (kv b)).run P w = .ok (decide (a = b)) w
  now : ∃ d, P.underlying kt = some d ∧ ∀ a b, Instr.sameNow d (kv a) (kv b) = none
  ck : ∀ e a (w : World), (Instr.checkKey e 10000 kt (kv a)).run P w = .ok () w
  same : ∀ a, Instr.sameBits 10000 (kv a) (kv a) = true
section
variable {P : Program} {E : Env P} {w0 w : World} {g : Ghost} {h : AHeap} {α : Type} [DecidableEq α] {kf : α → AV} {kv : α → Value} {kt : TypeId}
abbrev Ents (α : Type) := List (α × AV × Nat)
def keyAt (k : α) : Ents α → Option Nat
  | [] => none
  | p :: es => if p.1 = k then some 0 else (keyAt k es).map (· + 1)
def mapO (kf : α → AV) (es : Ents α) (clock : Nat) : AObj := .map (es.map fun p => (kf p.1, p.2.1, p.2.2)) clock
theorem keyAt_some {k : α} : ∀ {es : Ents α} {j : Nat}, keyAt k es = some j → ∃ hj : j < es.length, es[j].1 = k
  | [], j, h => by cases h
  | p :: es, j, h => by
    unfold keyAt at h
    split at h
    · rename_i e; injection h with h; subst h; exact ⟨by simp, e⟩
    · cases hk : keyAt k es with
      | none => rw [hk] at h; cases h
      | some i =>
        rw [hk] at h
        injection h with h
        subst h
        obtain ⟨hj, e⟩ := keyAt_some hk
        exact ⟨by simp; omega, by simpa using e⟩
theorem keyAt_none {k : α} : ∀ {es : Ents α}, keyAt k es = none ↔ ∀ p ∈ es, p.1 ≠ k
  | [] => by simp [keyAt]
  | p :: es => by
    unfold keyAt
    have ih := keyAt_none (k := k) (es := es)
    split
    · rename_i e; simp [e]
    · rename_i e
      rw [Option.map_eq_none_iff, ih]
      simp [e]
theorem findAsking_run (K : KeyFor P kt kf kv) (k : α) (w : World) : ∀ (l : List MapEntry) (es : Ents α) (i0 : Nat), l.length = es.length → (∀ i (h : i < l.length) (h' : i < es.length), l[i].key = kv es[i].1) →
    (keyAt k es = none → (Instr.findAsking kt (kv k) l i0).run P w = .ok none w) ∧ ∀ j, keyAt k es = some j → ∃ hj : j < l.length, (Instr.findAsking kt (kv k) l i0).run P w = .ok (some (i0 + j, l[j].val)) w
  | [], [], i0, hl, hk => ⟨fun _ => by simp [Instr.findAsking], fun j h => by cases h⟩
  | [], p :: es, i0, hl, hk => by simp at hl
  | e :: l, [], i0, hl, hk => by simp at hl
  | e :: l, p :: es, i0, hl, hk => by
    have h0 : e.key = kv p.1 := hk 0 (by simp) (by simp)
    have ih := findAsking_run K k w l es (i0 + 1) (by simpa using hl) fun i h1 h2 => hk (i + 1) (by simpa using h1) (by simpa using h2)
    have he := K.eq k p.1 w
    unfold keyAt Instr.findAsking
    rw [h0]
    by_cases hp : p.1 = k
    · have hd : decide (k = p.1) = true := by simp [hp]
      rw [hd] at he
      rw [if_pos hp]
      refine ⟨fun h => (by cases h), fun j hj => ?_⟩
      injection hj with hj
      subst hj
      exact ⟨by simp, by simp [Sem.run_bind, he, Result.andThen]⟩
    · have hd : decide (k = p.1) = false := by simp; exact fun e => hp e.symm
      rw [hd] at he
      rw [if_neg hp]
      constructor
      · intro h
        have h2 : keyAt k es = none := by simpa using h
        simp [Sem.run_bind, he, Result.andThen, ih.1 h2]
      · intro j hj
        cases hk2 : keyAt k es with
        | none => rw [hk2] at hj; cases hj
        | some i =>
          rw [hk2] at hj
          injection hj with hj
          subst hj
          obtain ⟨hi, hr⟩ := ih.2 i hk2
          exact ⟨by simp; omega, by simp [Sem.run_bind, he, Result.andThen, hr]; omega⟩
theorem findKey_run (K : KeyFor P kt kf kv) (k : α) (w : World) (l : List MapEntry) (es : Ents α) (hl : l.length = es.length) (hk : ∀ i (h : i < l.length) (h' : i < es.length), l[i].key = kv es[i].1) :
    (keyAt k es = none → (Instr.findKey kt (kv k) l).run P w = .ok none w) ∧ ∀ j, keyAt k es = some j → ∃ hj : j < l.length, (Instr.findKey kt (kv k) l).run P w = .ok (some (j, l[j].val)) w := by
  obtain ⟨d, hd, hn⟩ := K.now
  have hf : Instr.findNow d (kv k) l 0 = if l = [] then some none else none := by
    cases l with
    | nil => rfl
    | cons e l =>
      cases es with
      | nil => simp at hl
      | cons p es => have h0 : e.key = kv p.1 := hk 0 (by simp) (by simp); simp [Instr.findNow, h0, hn]
  have fa := findAsking_run K k w l es 0 hl hk
  cases l with
  | nil =>
    cases es with
    | cons p es => simp at hl
    | nil => exact ⟨fun _ => by simp [Instr.findKey, run_underlying hd, hf], fun j h => by cases h⟩
  | cons e l =>
    refine ⟨fun h => by simp [Instr.findKey, run_underlying hd, hf, fa.1 h], fun j h => ?_⟩
    obtain ⟨hj, hr⟩ := fa.2 j h
    exact ⟨hj, by simp [Instr.findKey, run_underlying hd, hf, hr]⟩
def putE (k : α) (x : AV) (clock : Nat) (es : Ents α) : Ents α := match keyAt k es with
  | none => es ++ [(k, x, clock)]
  | some j => es.modify j fun p => (p.1, x, p.2.2)
def putC (k : α) (clock : Nat) (es : Ents α) : Nat := match keyAt k es with
  | none => clock + 1
  | some _ => clock
/-- A map's block. -/
theorem mapO_block {es : Ents α} {clock : Nat} (K : KeyFor P kt kf kv) (S : Sim w0 g h w) {id b : Nat} (ho : h[id]? = some (mapO kf es clock)) (hb : g.at_ id = .blk b) :
    w0.heap.size ≤ b ∧ ∃ ces, w.heap[b]? = some (.map ces clock) ∧ es.length = ces.size ∧ ∀ i (h : i < es.length) (h' : i < ces.size), ces[i].key = kv es[i].1 ∧ VRel g es[i].2.1 ces[i].val ∧ es[i].2.2 = ces[i].born := by
  obtain ⟨h1, ces, h2, h3, h4⟩ := map_block S ho hb
  refine ⟨h1, ces, h2, by simpa using h3, fun i hi hi' => ?_⟩
  have := h4 i (by simpa using hi) hi'
  simp only [List.getElem_map] at this
  exact ⟨K.rel this.1, this.2.1, this.2.2⟩
/-- A block that holds no cells turns. -/
theorem turn_blk (S : Sim w0 g h w) {id b : Nat} {o o' : AObj} {x x' : Obj} (ho : h[id]? = some o) (hd : o ≠ .dead) (hbk : (g.at_ id).block = some b) (hx : w.heap[b]? = some x) (hnc : ∀ a, w.cell? ⟨b, a, none⟩ = none)
    (hnew : ORel w0.heap.size g (ChangeMaps.setBlock w b x') (g.at_ id) o') (hlo : o.low = false := by rfl) : Sim w0 g (h.set id o') (ChangeMaps.setBlock w b x') := by
  have hlt : b < w.heap.size := (Array.getElem?_eq_some_iff.1 hx).1
  refine S.turn (b := b) ho hd hbk (by simp [ChangeMaps.setBlock]) rfl rfl rfl (fun k _ hk => by simp [ChangeMaps.setBlock, Array.getElem?_setIfInBounds, Ne.symm hk]) (fun a v e => ?_) (fun a n e => ?_) hnew (hlo := hlo)
  · have := S.imm b a v e; rw [hnc] at this; cases this
  · have := S.imm b a _ e; rw [hnc] at this; cases this
theorem setBlock_get {b : Nat} {x x' : Obj} (hx : w.heap[b]? = some x) : (ChangeMaps.setBlock w b x').heap[b]? = some x' := by
  have hlt : b < w.heap.size := (Array.getElem?_eq_some_iff.1 hx).1
  simp [ChangeMaps.setBlock, Array.getElem?_setIfInBounds, hlt]
theorem map_nocell {b : Nat} {ces : Array MapEntry} {c : Nat} (hx : w.heap[b]? = some (.map ces c)) (a : Nat) : w.cell? ⟨b, a, none⟩ = none := by
  unfold World.cell?
  simp only [hx]
/-- Something is put into a map. -/
theorem put_map (K : KeyFor P kt kf kv) (S : Sim w0 g h w) {mty et : TypeId} {id clock : Nat} {es : Ents α} {k : α} {x : AV} (hm : P.underlying mty = some (.map kt et)) (ho : h[id]? = some (mapO kf es clock))
    {vm vk vx : Value} (rm : VRel g (.map id) vm) (rk : VRel g (kf k) vk) (rx : VRel g x vx) :
    ∃ w', (Instr.mapUpdate mty vm vk vx).run P w = .ok () w' ∧ Sim w0 g (h.set id (mapO kf (putE k x clock es) (putC k clock es))) w' := by
  obtain ⟨hid, b, hb, rfl⟩ := map_eq rm
  obtain rfl := K.rel rk
  obtain ⟨hbase, ces, h2, hl, he⟩ := mapO_block K S ho hb
  obtain ⟨f1, f2⟩ := findKey_run K k w ces.toList es (by simpa using hl.symm) fun i h1 h2 => by simpa using (he i h2 (by simpa using h1)).1
  have hck := K.ck false k w
  cases hk : keyAt k es with
  | none =>
    have hf := f1 hk
    refine ⟨ChangeMaps.setBlock w b (.map (ces.push { key := kv k, val := vx, born := clock }) (clock + 1)), by simp [Instr.mapUpdate, run_underlying hm, Go.MapKept.run_getObj_map h2, hck, hf, run_setObj_map _ h2, Result.andThen, ChangeMaps.setBlock], ?_⟩
    refine turn_blk S ho (by simp [mapO]) (by rw [hb]; rfl) h2 (map_nocell h2) ?_
    rw [hb]
    unfold putE putC mapO
    rw [hk]
    refine ⟨hbase, _, setBlock_get h2, by simp [hl], fun i h1 h3 => ?_⟩
    simp only [List.getElem_map]
    by_cases hi : i < es.length
    · rw [List.getElem_append_left hi, Array.getElem_push_lt (by omega)]
      obtain ⟨a1, a2, a3⟩ := he i hi (by omega)
      have hkr := (map_block S ho hb).2
      obtain ⟨ces2, b1, b2, b3⟩ := hkr
      rw [h2] at b1
      injection b1 with b1
      injection b1 with b1
      subst b1
      have := b3 i (by simpa using hi) (by omega)
      simpa using this
    · simp only [List.length_map, List.length_append, List.length_singleton] at h1
      obtain rfl : i = es.length := by omega
      have e1 : (es ++ [(k, x, clock)])[es.length]'(by simp) = (k, x, clock) := by simp
      have e2 : (ces.push { key := kv k, val := vx, born := clock })[es.length]'h3 = { key := kv k, val := vx, born := clock } := by
        simp only [hl]; exact Array.getElem_push_eq ..
      rw [e1, e2]
      exact ⟨rk, rx, rfl⟩
  | some j =>
    obtain ⟨hj, hf⟩ := f2 j hk
    obtain ⟨hj2, hkj⟩ := keyAt_some hk
    have hjc : j < ces.size := by omega
    have hkey : ces[j].key = kv k := by rw [(he j hj2 hjc).1, hkj]
    have hst : (Instr.keyThatStays (kv k) (kv k)).run P w = .ok (kv k) w := by simp [Instr.keyThatStays, K.same]
    refine ⟨ChangeMaps.setBlock w b (.map (ces.modify j fun e => { e with key := kv k, val := vx }) clock), ?_, ?_⟩
    · simp [Instr.mapUpdate, run_underlying hm, Go.MapKept.run_getObj_map h2, hck, hf, Array.getElem?_eq_getElem hjc, hkey, hst, run_setObj_map _ h2, Result.andThen, ChangeMaps.setBlock]
    refine turn_blk S ho (by simp [mapO]) (by rw [hb]; rfl) h2 (map_nocell h2) ?_
    rw [hb]
    unfold putE putC mapO
    rw [hk]
    refine ⟨hbase, _, setBlock_get h2, by simp [hl], fun i h1 h3 => ?_⟩
    have hi : i < es.length := by simpa using h1
    obtain ⟨ces2, b1, b2, b3⟩ := (map_block S ho hb).2
    rw [h2] at b1
    injection b1 with b1
    injection b1 with b1
    subst b1
    have hold := b3 i (by simpa using hi) (by omega)
    simp only [List.getElem_map, List.getElem_modify, Array.getElem_modify] at hold ⊢
    by_cases hij : j = i
    · subst hij
      simp only [if_true]
      refine ⟨?_, rx, hold.2.2⟩
      have := hold.1
      rw [hkey] at this
      exact this
    · simp only [if_neg hij]
      exact hold
theorem aops_put {ops : Array Oper} {o : Oper} {r : List Oper} {n : Nat} {s : Slots} {h : AHeap} {Q : ASt → Prop} {mty et : TypeId} {id clock : Nat} {es : Ents α} {k : α} {m kx x : Operand} {v : AV} (K : KeyFor P kt kf kv) (hop : o.op = .mapUpdate mty m kx x) (hg : o.guard = none) (hdst : o.dst = none)
    (hm : P.underlying mty = some (.map kt et)) (hx : Slots.ev s m = .map id) (hk : Slots.ev s kx = kf k) (hv : Slots.ev s x = v) (ho : h[id]? = some (mapO kf es clock))
    (q : AOps E ops r ⟨n, s, h.set id (mapO kf (putE k v clock es) (putC k clock es))⟩ Q) : AOps E ops (o :: r) ⟨n, s, h⟩ Q :=
  aops_one hg (fun m0 w0 g w a hC ra S next Q2 hn => by
    refine opwp_rf (fun c => by rw [hop]; simp) ?_
    have rm := ra.ev m
    have rk := ra.ev kx
    have rx := ra.ev x
    simp only at rm rk rx
    rw [hx] at rm
    rw [hk] at rk
    rw [hv] at rx
    obtain ⟨w', hrun, S'⟩ := put_map (P := P) K S hm ho rm rk rx
    unfold Oper.wp execOp
    simp only [hop, Sem.run_bind, hrun, Result.andThen_ok, Sem.run_pure]
    refine hn _ w' g (.tuple []) _ (.refl g) (void_rel g) S' ?_
    rw [hdst]
    exact q)
end
end Go.Proofs.Ytajgeofhlgoifaa.V
