/- Maps by numbers: a literal of a few entries, and a look into one of three. No program is named here. -/
import Derived.Test.YtajgeofhlgoifaaV25
set_option linter.unusedVariables false
set_option linter.unusedSimpArgs false
namespace Go.Proofs.Ytajgeofhlgoifaa.V
open Go Go.RowKit Go.MapKept
section
variable {P : Program} {E : Env P} {w0 w : World} {g : Ghost} {h : AHeap}
theorem new_map (S : Sim w0 g h w) : g.le (g.push (.blk w.heap.size)) ∧ Sim w0 (g.push (.blk w.heap.size)) (h ++ [.map [] 0]) (w.alloc (.map #[] 0)) ∧ VRel (g.push (.blk w.heap.size)) (.map h.length) (.map (some w.heap.size)) := by
  have S1 := S.keep (alloc_below w (.map #[] 0))
  have l := Ghost.push_le g (.blk w.heap.size)
  refine ⟨l, S1.push ⟨S.below.size, #[], heap_alloc_new w _, rfl, fun i h => absurd h (by simp)⟩ (fun id o' ho hd b hb e => ?_) (fun b hb => ?_), ?_⟩
  · injection hb with hb
    subst hb
    exact S.fresh (Nat.le_refl _) id o' ho hd e
  · injection hb with hb
    subst hb
    exact S.fresh_pin (Nat.le_refl _)
  · refine .map _ _ ?_ ?_
    · rw [S.n]; exact Nat.lt_succ_self _
    · rw [S.n]; exact Ghost.push_at g _
theorem aops_makeMap {ops : Array Oper} {o : Oper} {r : List Oper} {n : Nat} {s : Slots} {h : AHeap} {K : ASt → Prop} {t : TypeId} (hop : o.op = .makeMap t none) (hg : o.guard = none)
    (k : AOps E ops r ⟨n, Slots.put n s o.dst (.map h.length), h ++ [.map [] 0]⟩ K) : AOps E ops (o :: r) ⟨n, s, h⟩ K :=
  aops_one hg (aope_of_gives (s := fun a => Instr.makeMap t none) (fun a => by simp [execOp, hop]) (fun c => by rw [hop]; simp) fun w0 g w a ra S => by
    obtain ⟨l, S', r'⟩ := new_map S
    exact ⟨_, _, k, _, _, _, by simp [Instr.makeMap], l, r', S'⟩)
theorem map_eq {id : Nat} {v : Value} (h : VRel g (.map id) v) : id < g.n ∧ ∃ b, g.at_ id = .blk b ∧ v = .map (some b) := by
  cases h with
  | map _ b hi hb => exact ⟨hi, b, hb, rfl⟩
theorem map_block {es : List (AV × AV × Nat)} {clock : Nat} (S : Sim w0 g h w) {id b : Nat} (ho : h[id]? = some (.map es clock)) (hb : g.at_ id = .blk b) : w0.heap.size ≤ b ∧ ∃ ces, w.heap[b]? = some (.map ces clock) ∧ es.length = ces.size ∧ ∀ i (h : i < es.length) (h' : i < ces.size), EntryRel g es[i] ces[i] := by
  have := S.obj id _ ho
  rw [hb] at this
  exact this
/-- A new entry. -/
theorem insert_map (S : Sim w0 g h w) {mty kt et : TypeId} {ik : IntKind} {id clock : Nat} {es : List (AV × AV × Nat)} {kn : Int} {x : AV} (hm : P.underlying mty = some (.map kt et)) (hd : P.underlying kt = some (.int ik)) (ho : h[id]? = some (.map es clock))
    (hks : ∀ p ∈ es, ∃ m, p.1 = .int ik m ∧ m ≠ kn) {vm vk vx : Value} (rm : VRel g (.map id) vm) (rk : VRel g (.int ik kn) vk) (rx : VRel g x vx) :
    ∃ w', (Instr.mapUpdate mty vm vk vx).run P w = .ok () w' ∧ Sim w0 g (h.set id (.map (es ++ [(.int ik kn, x, clock)]) (clock + 1))) w' := by
  obtain ⟨hid, b, hb, rfl⟩ := map_eq rm
  obtain rfl := rk.int_eq
  obtain ⟨hbase, ces, h2, hl, he⟩ := map_block S ho hb
  have hkey : ∀ i (hi : i < ces.size), ∃ m, ces[i].key = .int ik m ∧ m ≠ kn := fun i hi => by
    have h1 := (he i (by omega) hi).1
    obtain ⟨m, hm1, hm2⟩ := hks es[i] (List.getElem_mem (by omega))
    rw [hm1] at h1
    exact ⟨m, h1.int_eq, hm2⟩
  have hall : ∀ y ∈ ces.toList, IsKey (.int ik) y.key ∧ y.key ≠ .int ik kn := fun y hy => by
    obtain ⟨i, hi, rfl⟩ := List.getElem_of_mem hy
    obtain ⟨m, h1, h2⟩ := hkey i (by simpa using hi)
    simp only [Array.getElem_toList]
    rw [h1]
    exact ⟨rfl, fun e => h2 (by injection e)⟩
  have hk : IsKey (.int ik) (.int ik kn) := rfl
  have hf : Instr.findNow (.int ik) (.int ik kn) ces.toList 0 = some none := by
    rcases findNow_spec hk ces.toList 0 (fun y hy => (hall y hy).1) with ⟨h1, _⟩ | ⟨j, e, _, h2, h3⟩
    · exact h1
    · exact absurd h3 (hall e (List.mem_of_getElem? h2)).2
  have hrun : (Instr.mapUpdate mty (.map (some b)) (.int ik kn) vx).run P w = .ok () { w with heap := w.heap.setIfInBounds b (.map (ces.push { key := .int ik kn, val := vx, born := clock }) (clock + 1)) } := by
    simp [Instr.mapUpdate, run_underlying hm, Go.MapKept.run_getObj_map h2, run_checkKey hd hk, run_findKey hd hf, run_setObj_map _ h2, Result.andThen]
  refine ⟨_, hrun, ?_⟩
  obtain ⟨hs1, hs2⟩ := heap_set (o' := .map (ces.push { key := .int ik kn, val := vx, born := clock }) (clock + 1)) h2
  refine S.turn (b := b) ho (by simp) (by rw [hb]; rfl) (by simp) rfl rfl rfl (fun k _ hk => hs2 k hk) (fun o v e => ?_) (fun o n e => ?_) ?_
  · have := S.imm b o v e
    unfold World.cell? at this
    simp only [h2] at this
    cases this
  · have := S.imm b o _ e
    unfold World.cell? at this
    simp only [h2] at this
    cases this
  · rw [hb]
    refine ⟨hbase, _, hs1, by simp [hl], fun i h1 h3 => ?_⟩
    by_cases hi : i < es.length
    · rw [List.getElem_append_left hi, Array.getElem_push_lt (by omega)]
      exact he i hi (by omega)
    · simp only [List.length_append, List.length_singleton] at h1
      obtain rfl : i = es.length := by omega
      have e1 : (es ++ [(AV.int ik kn, x, clock)])[es.length] = (AV.int ik kn, x, clock) := by simp
      have e2 : (ces.push { key := Value.int ik kn, val := vx, born := clock })[es.length] = { key := Value.int ik kn, val := vx, born := clock } := by
        simp only [hl]; exact Array.getElem_push_eq ..
      rw [e1, e2]
      exact ⟨.int _ _, rx, rfl⟩
theorem aops_insert {ops : Array Oper} {o : Oper} {r : List Oper} {n : Nat} {s : Slots} {h : AHeap} {K : ASt → Prop} {mty kt et : TypeId} {ik : IntKind} {id clock : Nat} {es : List (AV × AV × Nat)} {kn : Int} {m x : Operand} {v : AV} (hop : o.op = .insert mty m (.const (.int ik kn)) x) (hg : o.guard = none) (hdst : o.dst = none)
    (hm : P.underlying mty = some (.map kt et)) (hd : P.underlying kt = some (.int ik)) (hx : Slots.ev s m = .map id) (hv : Slots.ev s x = v) (ho : h[id]? = some (.map es clock)) (hks : ∀ p ∈ es, ∃ m, p.1 = .int ik m ∧ m ≠ kn)
    (k : AOps E ops r ⟨n, s, h.set id (.map (es ++ [(.int ik kn, v, clock)]) (clock + 1))⟩ K) : AOps E ops (o :: r) ⟨n, s, h⟩ K :=
  aops_one hg (fun m0 w0 g w a hC ra S next Q hn => by
    refine opwp_rf (fun c => by rw [hop]; simp) ?_
    have rm := ra.ev m
    have rx := ra.ev x
    simp only at rm rx
    rw [hx] at rm
    rw [hv] at rx
    obtain ⟨w', hrun, S'⟩ := insert_map (P := P) S hm hd ho hks rm (.int ik kn) rx
    have he : a.eval (.const (.int ik kn)) = .int ik kn := rfl
    unfold Oper.wp execOp
    simp only [hop, Sem.run_bind, he, hrun, Result.andThen_ok, Sem.run_pure]
    refine hn _ w' g (.tuple []) _ (.refl g) (void_rel g) S' ?_
    rw [hdst]
    exact k)
/-- A look into a map of three. -/
theorem lookup_map (S : Sim w0 g h w) {mty kt et : TypeId} {ik : IntKind} {id clock : Nat} {i : TypeInfo} {k1 k2 k3 n : Int} {v1 v2 v3 : AV} {b1 b2 b3 : Nat} (hm : P.underlying mty = some (.map kt et)) (hd : P.underlying kt = some (.int ik)) (hi : P.info? et = some i) (hz : i.zero = some .nilFunc)
    (ho : h[id]? = some (.map [(.int ik k1, v1, b1), (.int ik k2, v2, b2), (.int ik k3, v3, b3)] clock)) {vm vk : Value} (rm : VRel g (.map id) vm) (rk : VRel g (.int ik n) vk) :
    Gives P w0 g w (if n = k1 then v1 else if n = k2 then v2 else if n = k3 then v3 else .nilfunc) h (Instr.lookup mty vm vk false) := by
  obtain ⟨hid, b, hb, rfl⟩ := map_eq rm
  obtain rfl := rk.int_eq
  obtain ⟨hbase, ces, h2, hl, he⟩ := map_block S ho hb
  obtain ⟨e1, e2, e3, rfl⟩ : ∃ e1 e2 e3, ces = #[e1, e2, e3] := by
    obtain ⟨l⟩ := ces
    simp at hl
    match l, hl with
    | [e1, e2, e3], _ => exact ⟨e1, e2, e3, rfl⟩
  obtain ⟨c1, d1, _⟩ := he 0 (by simp) (by simp)
  obtain ⟨c2, d2, _⟩ := he 1 (by simp) (by simp)
  obtain ⟨c3, d3, _⟩ := he 2 (by simp) (by simp)
  simp only [List.getElem_cons_zero, List.getElem_cons_succ, List.getElem_toArray] at c1 c2 c3 d1 d2 d3
  have f1 := c1.int_eq
  have f2 := c2.int_eq
  have f3 := c3.int_eq
  have hk : IsKey (.int ik) (.int ik n) := rfl
  have hzz : (zeroValue et).run P w = .ok .nilFunc w := by simp [zeroValue, typeInfo, hi, hz]
  by_cases q1 : n = k1
  · have g1 : (n == k1) = true := by simpa using q1
    have hf : Instr.findNow (.int ik) (.int ik n) [e1, e2, e3] 0 = some (some (0, e1.val)) := by simp [Instr.findNow, Instr.sameNow, f1, g1]
    rw [if_pos q1]
    exact ⟨e1.val, w, g, by simp [Instr.lookup, run_underlying hm, Go.MapKept.run_getObj_map h2, run_checkKey hd hk, run_findKey hd hf, Result.andThen], .refl g, d1, S⟩
  · have g1 : (n == k1) = false := by simpa using q1
    rw [if_neg q1]
    by_cases q2 : n = k2
    · have g2 : (n == k2) = true := by simpa using q2
      have hf : Instr.findNow (.int ik) (.int ik n) [e1, e2, e3] 0 = some (some (1, e2.val)) := by simp [Instr.findNow, Instr.sameNow, f1, f2, g1, g2]
      rw [if_pos q2]
      exact ⟨e2.val, w, g, by simp [Instr.lookup, run_underlying hm, Go.MapKept.run_getObj_map h2, run_checkKey hd hk, run_findKey hd hf, Result.andThen], .refl g, d2, S⟩
    · have g2 : (n == k2) = false := by simpa using q2
      rw [if_neg q2]
      by_cases q3 : n = k3
      · have g3 : (n == k3) = true := by simpa using q3
        have hf : Instr.findNow (.int ik) (.int ik n) [e1, e2, e3] 0 = some (some (2, e3.val)) := by simp [Instr.findNow, Instr.sameNow, f1, f2, f3, g1, g2, g3]
        rw [if_pos q3]
        exact ⟨e3.val, w, g, by simp [Instr.lookup, run_underlying hm, Go.MapKept.run_getObj_map h2, run_checkKey hd hk, run_findKey hd hf, Result.andThen], .refl g, d3, S⟩
      · have g3 : (n == k3) = false := by simpa using q3
        have hf : Instr.findNow (.int ik) (.int ik n) [e1, e2, e3] 0 = some none := by simp [Instr.findNow, Instr.sameNow, f1, f2, f3, g1, g2, g3]
        rw [if_neg q3]
        exact ⟨.nilFunc, w, g, by simp [Instr.lookup, run_underlying hm, Go.MapKept.run_getObj_map h2, run_checkKey hd hk, run_findKey hd hf, hzz, Result.andThen], .refl g, .nilfunc, S⟩
theorem aops_lookup {ops : Array Oper} {o : Oper} {r : List Oper} {n : Nat} {s : Slots} {h : AHeap} {K : ASt → Prop} {mty kt et : TypeId} {ik : IntKind} {id clock : Nat} {i : TypeInfo} {k1 k2 k3 kn : Int} {v1 v2 v3 : AV} {b1 b2 b3 : Nat} {m x : Operand} (hop : o.op = .lookup mty m x false) (hg : o.guard = none)
    (hm : P.underlying mty = some (.map kt et)) (hd : P.underlying kt = some (.int ik)) (hi : P.info? et = some i) (hz : i.zero = some .nilFunc) (hx : Slots.ev s m = .map id) (hv : Slots.ev s x = .int ik kn)
    (ho : h[id]? = some (.map [(.int ik k1, v1, b1), (.int ik k2, v2, b2), (.int ik k3, v3, b3)] clock))
    (k : AOps E ops r ⟨n, Slots.put n s o.dst (if kn = k1 then v1 else if kn = k2 then v2 else if kn = k3 then v3 else .nilfunc), h⟩ K) : AOps E ops (o :: r) ⟨n, s, h⟩ K :=
  aops_one hg (aope_of_gives (s := fun a => Instr.lookup mty (a.eval m) (a.eval x) false) (fun a => by simp [execOp, hop]) (fun c => by rw [hop]; simp) fun w0 g w a ra S => by
    have rm := ra.ev m
    have rx := ra.ev x
    simp only at rm rx
    rw [hx] at rm
    rw [hv] at rx
    exact ⟨_, _, k, lookup_map (P := P) S hm hd hi hz ho rm rx⟩)
end
end Go.Proofs.Ytajgeofhlgoifaa.V
