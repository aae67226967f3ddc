/- Maps by keys that are structs: how many, whether one is there, what is taken out; a range over one. No program is named here. -/
import Derived.Test.YtajgeofhlgoifaaV33
set_option linter.unusedVariables false
set_option linter.unusedSimpArgs false
namespace Go.Proofs.Ytajgeofhlgoifaa.V
open Go Go.RowKit Go.MapKept
section
variable {P : Program} {E : Env P} {w0 w : World} {g : Ghost} {h : AHeap} {α : Type} [DecidableEq α] {kf : α → AV} {kv : α → Value} {kt : TypeId}
def delE (k : α) (es : Ents α) : Ents α := match keyAt k es with
  | none => es
  | some j => es.eraseIdx j
theorem ent_rel {es : List (AV × AV × Nat)} {clock : Nat} (S : Sim w0 g h w) {id b : Nat} {ces : Array MapEntry} (ho : h[id]? = some (.map es clock)) (hb : g.at_ id = .blk b) (h2 : w.heap[b]? = some (.map ces clock)) :
    es.length = ces.size ∧ ∀ i (h : i < es.length) (h' : i < ces.size), EntryRel g es[i] ces[i] := by
  obtain ⟨_, ces2, b1, b2, b3⟩ := map_block S ho hb
  rw [h2] at b1
  injection b1 with b1
  injection b1 with b1
  subst b1
  exact ⟨b2, b3⟩
theorem del_map (K : KeyFor P kt kf kv) (S : Sim w0 g h w) {mty kty et ty : TypeId} {id clock : Nat} {es : Ents α} {k : α} (hm : P.underlying mty = some (.map kt et)) (ho : h[id]? = some (mapO kf es clock))
    {vm vk : Value} (rm : VRel g (.map id) vm) (rk : VRel g (kf k) vk) :
    Gives P w0 g w (.tuple []) (h.set id (mapO kf (delE k es) clock)) (Builtin.delete_ #[mty, kty] ty #[vm, vk]) := by
  obtain ⟨hid, b, hb, rfl⟩ := map_eq rm
  obtain rfl := K.rel rk
  obtain ⟨hbase, ces, h2, hl, he⟩ := mapO_block K S ho hb
  obtain ⟨f1, f2⟩ := findKey_run K k w ces.toList es (by simpa using hl.symm) fun i h1 h2 => by simpa using (he i h2 (by simpa using h1)).1
  have hck := fun e => K.ck e k w
  obtain ⟨hl2, her⟩ := ent_rel S ho hb h2
  cases hk : keyAt k es with
  | none =>
    have hf := f1 hk
    refine ⟨.tuple #[], ChangeMaps.setBlock w b (.map ces clock), g, by simp [Builtin.delete_, run_underlying hm, Go.MapKept.run_getObj_map h2, hck, hf, run_setObj_map _ h2, Result.andThen, ChangeMaps.setBlock], .refl g, .tuple _ _ rfl (fun i h => absurd h (by simp)), ?_⟩
    refine turn_blk S ho (by simp [mapO]) (by rw [hb]; rfl) h2 (map_nocell h2) ?_
    rw [hb]
    unfold delE mapO
    rw [hk]
    exact ⟨hbase, _, setBlock_get h2, hl2, her⟩
  | some j =>
    obtain ⟨hj, hf⟩ := f2 j hk
    obtain ⟨hj2, hkj⟩ := keyAt_some hk
    have hjc : j < ces.size := by omega
    refine ⟨.tuple #[], ChangeMaps.setBlock w b (.map (ces.eraseIdxIfInBounds j) clock), g, by simp [Builtin.delete_, run_underlying hm, Go.MapKept.run_getObj_map h2, hck, hf, run_setObj_map _ h2, Result.andThen, ChangeMaps.setBlock], .refl g, .tuple _ _ rfl (fun i h => absurd h (by simp)), ?_⟩
    refine turn_blk S ho (by simp [mapO]) (by rw [hb]; rfl) h2 (map_nocell h2) ?_
    rw [hb]
    unfold delE mapO
    rw [hk]
    have hes : ces.eraseIdxIfInBounds j = (ces.toList.eraseIdx j).toArray := by
      rw [Array.eraseIdxIfInBounds, dif_pos hjc]
      apply Array.ext'
      simp
    rw [hes]
    refine ⟨hbase, _, setBlock_get h2, by simp [List.length_eraseIdx, hj2, hjc, hl], fun i h1 h3 => ?_⟩
    simp only [List.getElem_map, List.getElem_toArray]
    rw [List.getElem_eraseIdx, List.getElem_eraseIdx]
    simp only [List.length_map, List.length_eraseIdx, hj2, if_true] at h1
    split
    · have := her i (by simp; omega) (by omega)
      simpa using this
    · have := her (i + 1) (by simp; omega) (by omega)
      simpa using this
theorem aops_del {ops : Array Oper} {o : Oper} {r : List Oper} {n : Nat} {s : Slots} {h : AHeap} {Q : ASt → Prop} {mty kty et : TypeId} {id clock : Nat} {es : Ents α} {k : α} {m kx : Operand} (K : KeyFor P kt kf kv) (hop : o.op = .call ⟨.builtin .delete, #[m, kx], #[mty, kty]⟩) (hg : o.guard = none)
    (hm : P.underlying mty = some (.map kt et)) (hx : Slots.ev s m = .map id) (hk : Slots.ev s kx = kf k) (ho : h[id]? = some (mapO kf es clock))
    (q : AOps E ops r ⟨n, Slots.put n s o.dst (.tuple []), h.set id (mapO kf (delE k es) clock)⟩ Q) : AOps E ops (o :: r) ⟨n, s, h⟩ Q :=
  aops_one hg (aope_of_gives (s := fun a => Builtin.delete_ #[mty, kty] o.type #[a.eval m, a.eval kx]) (fun a => by simp [execOp, hop, resolve, invoke, builtin]) (fun c => by rw [hop]; simp) fun w0 g w a ra S => by
    have rm := ra.ev m
    have rk := ra.ev kx
    simp only at rm rk
    rw [hx] at rm
    rw [hk] at rk
    exact ⟨_, _, q, del_map K S hm ho rm rk⟩)
theorem len_map (S : Sim w0 g h w) {mty kt et ty : TypeId} {id clock : Nat} {es : List (AV × AV × Nat)} (hm : P.underlying mty = some (.map kt et)) (ho : h[id]? = some (.map es clock)) {vm : Value} (rm : VRel g (.map id) vm) :
    Gives P w0 g w (.int .i64 (es.length : Nat)) h (Builtin.len_ #[mty] ty #[vm]) := by
  obtain ⟨hid, b, hb, rfl⟩ := map_eq rm
  obtain ⟨hbase, ces, h2, hl, he⟩ := map_block S ho hb
  exact ⟨.int .i64 (ces.size : Nat), w, g, by simp [Builtin.len_, run_underlying hm, Go.MapKept.run_getObj_map h2, Result.andThen, goInt], .refl g, by rw [hl]; exact .int _ _, S⟩
theorem aops_lenm {ops : Array Oper} {o : Oper} {r : List Oper} {n : Nat} {s : Slots} {h : AHeap} {Q : ASt → Prop} {mty kt et : TypeId} {id clock : Nat} {es : List (AV × AV × Nat)} {m : Operand} (hop : o.op = .call ⟨.builtin .len, #[m], #[mty]⟩) (hg : o.guard = none)
    (hm : P.underlying mty = some (.map kt et)) (hx : Slots.ev s m = .map id) (ho : h[id]? = some (.map es clock))
    (q : AOps E ops r ⟨n, Slots.put n s o.dst (.int .i64 (es.length : Nat)), h⟩ Q) : AOps E ops (o :: r) ⟨n, s, h⟩ Q :=
  aops_one hg (aope_of_gives (s := fun a => Builtin.len_ #[mty] o.type #[a.eval m]) (fun a => by simp [execOp, hop, resolve, invoke, builtin]) (fun c => by rw [hop]; simp) fun w0 g w a ra S => by
    have rm := ra.ev m
    simp only at rm
    rw [hx] at rm
    exact ⟨_, _, q, len_map S hm ho rm⟩)
/-- What a look finds. -/
def lookE (z : AV) (k : α) (es : Ents α) : AV := match keyAt k es with
  | none => z
  | some j => (es[j]?.map (·.2.1)).getD z
theorem look_map (K : KeyFor P kt kf kv) (S : Sim w0 g h w) {mty et : TypeId} {id clock : Nat} {es : Ents α} {k : α} {z : AV} (c : Bool) (hm : P.underlying mty = some (.map kt et)) (hz : ∀ w, ∃ v, (zeroValue et).run P w = .ok v w ∧ VRel g z v)
    (ho : h[id]? = some (mapO kf es clock)) {vm vk : Value} (rm : VRel g (.map id) vm) (rk : VRel g (kf k) vk) :
    Gives P w0 g w (if c then .tuple [lookE z k es, .bool (keyAt k es).isSome] else lookE z k es) h (Instr.lookup mty vm vk c) := by
  obtain ⟨hid, b, hb, rfl⟩ := map_eq rm
  obtain rfl := K.rel rk
  obtain ⟨hbase, ces, h2, hl, he⟩ := mapO_block K S ho hb
  obtain ⟨f1, f2⟩ := findKey_run K k w ces.toList es (by simpa using hl.symm) fun i h1 h2 => by simpa using (he i h2 (by simpa using h1)).1
  have hck := fun e => K.ck e k w
  obtain ⟨zv, hzv, hzr⟩ := hz w
  cases hk : keyAt k es with
  | none =>
    have hf := f1 hk
    have hle : lookE z k es = z := by unfold lookE; rw [hk]
    rw [hle]
    cases c with
    | true => exact ⟨.tuple #[zv, .bool false], w, g, by simp [Instr.lookup, run_underlying hm, Go.MapKept.run_getObj_map h2, hck, hf, hzv, Result.andThen], .refl g, .tuple _ _ rfl (fun i h1 h2 => by
        have : i = 0 ∨ i = 1 := by simp at h1; omega
        rcases this with rfl | rfl
        · exact hzr
        · exact .bool _), S⟩
    | false => exact ⟨zv, w, g, by simp [Instr.lookup, run_underlying hm, Go.MapKept.run_getObj_map h2, hck, hf, hzv, Result.andThen], .refl g, hzr, S⟩
  | some j =>
    obtain ⟨hj, hf⟩ := f2 j hk
    obtain ⟨hj2, hkj⟩ := keyAt_some hk
    have hjc : j < ces.size := by omega
    have hr := (he j hj2 hjc).2.1
    have hle : lookE z k es = es[j].2.1 := by unfold lookE; rw [hk]; simp [hj2]
    rw [hle]
    cases c with
    | true => exact ⟨.tuple #[ces[j].val, .bool true], w, g, by simp [Instr.lookup, run_underlying hm, Go.MapKept.run_getObj_map h2, hck, hf, Result.andThen], .refl g, .tuple _ _ rfl (fun i h1 h2 => by
        have : i = 0 ∨ i = 1 := by simp at h1; omega
        rcases this with rfl | rfl
        · exact hr
        · exact .bool _), S⟩
    | false => exact ⟨ces[j].val, w, g, by simp [Instr.lookup, run_underlying hm, Go.MapKept.run_getObj_map h2, hck, hf, Result.andThen], .refl g, hr, S⟩
theorem aops_look {ops : Array Oper} {o : Oper} {r : List Oper} {n : Nat} {s : Slots} {h : AHeap} {Q : ASt → Prop} {mty et : TypeId} {id clock : Nat} {es : Ents α} {k : α} {m kx : Operand} {z : AV} {c : Bool} (K : KeyFor P kt kf kv) (hop : o.op = .lookup mty m kx c) (hg : o.guard = none)
    (hm : P.underlying mty = some (.map kt et)) (hz : ∀ (g : Ghost) (w : World), ∃ v, (zeroValue et).run P w = .ok v w ∧ VRel g z v) (hx : Slots.ev s m = .map id) (hk : Slots.ev s kx = kf k) (ho : h[id]? = some (mapO kf es clock))
    (q : AOps E ops r ⟨n, Slots.put n s o.dst (if c then .tuple [lookE z k es, .bool (keyAt k es).isSome] else lookE z k es), h⟩ Q) : AOps E ops (o :: r) ⟨n, s, h⟩ Q :=
  aops_one hg (aope_of_gives (s := fun a => Instr.lookup mty (a.eval m) (a.eval kx) c) (fun a => by simp [execOp, hop]) (fun c => by rw [hop]; simp) fun w0 g w a ra S => by
    have rm := ra.ev m
    have rk := ra.ev kx
    simp only at rm rk
    rw [hx] at rm
    rw [hk] at rk
    exact ⟨_, _, q, look_map K S c hm (hz g) ho rm rk⟩)
/-! A range over a map. -/
theorem aops_range {ops : Array Oper} {o : Oper} {r : List Oper} {n : Nat} {s : Slots} {h : AHeap} {Q : ASt → Prop} {mty kt et : TypeId} {id clock : Nat} {es : List (AV × AV × Nat)} {m : Operand} (hop : o.op = .range mty m) (hg : o.guard = none)
    (hm : P.underlying mty = some (.map kt et)) (hx : Slots.ev s m = .map id) (ho : h[id]? = some (.map es clock))
    (q : AOps E ops r ⟨n, Slots.put n s o.dst (.ptr h.length 0), h ++ [.iter id clock clock []]⟩ Q) : AOps E ops (o :: r) ⟨n, s, h⟩ Q :=
  aops_one hg (aope_of_gives (s := fun a => Instr.range mty (a.eval m)) (fun a => by simp [execOp, hop]) (fun c => by rw [hop]; simp) fun w0 g w a ra S => by
    have rm := ra.ev m
    simp only at rm
    rw [hx] at rm
    obtain ⟨hid, b, hb, hv⟩ := map_eq rm
    obtain ⟨hbase, ces, h2, hl, he⟩ := map_block S ho hb
    have S1 := S.keep (alloc_below w (.mapIter (some b) clock #[] clock))
    have l := Ghost.push_le g (.blk w.heap.size)
    refine ⟨_, _, q, .pointer (some ⟨w.heap.size, 0, none⟩), w.alloc (.mapIter (some b) clock #[] clock), g.push (.blk w.heap.size), by rw [hv]; exact run_range_map w mty kt et b ces clock hm h2, l, ?_, ?_⟩
    · exact .ptr _ 0 _ (by rw [S.n]; exact Nat.lt_succ_self _) (by rw [S.n]; exact Ghost.push_at g _)
    · refine S1.push ⟨S.below.size, Nat.lt_of_lt_of_le hid l.n, b, (l.at_ id hid).trans hb, Go.heap_alloc_new w _⟩ (fun id o' ho hd b hb e => ?_) (fun b hb => ?_)
      · injection hb with hb
        subst hb
        exact S.fresh (Nat.le_refl _) id o' ho hd e
      · injection hb with hb
        subst hb
        exact S.fresh_pin (Nat.le_refl _))
theorem iter_block {id since last : Nat} {seen : List Nat} (S : Sim w0 g h w) {rid b : Nat} (ho : h[rid]? = some (.iter id since last seen)) (hb : g.at_ rid = .blk b) :
    w0.heap.size ≤ b ∧ id < g.n ∧ ∃ mb, g.at_ id = .blk mb ∧ w.heap[b]? = some (.mapIter (some mb) since seen.toArray last) := by
  have := S.obj rid _ ho
  rw [hb] at this
  exact this
theorem ptr_blk {id off : Nat} {v : Value} (h : VRel g (.ptr id off) v) : ∃ b, g.at_ id = .blk b ∧ v = .pointer (some ⟨b, off, none⟩) := by
  cases h with
  | ptr _ _ b hi hb => exact ⟨b, hb, rfl⟩
theorem aops_next {ops : Array Oper} {o : Oper} {r : List Oper} {n : Nat} {s : Slots} {h : AHeap} {Q : ASt → Prop} {id rid clock since last : Nat} {seen : List Nat} {es : List (AV × AV × Nat)} {x : Operand} (hop : o.op = .next x false) (hg : o.guard = none)
    (hx : Slots.ev s x = .ptr rid 0) (hi : h[rid]? = some (.iter id since last seen)) (ho : h[id]? = some (.map es clock)) (hold : ∀ p ∈ es, p.2.2 < since) (hsl : since ≤ last)
    (q1 : (∀ p ∈ es, p.2.2 ∈ seen) → AOps E ops r ⟨n, Slots.put n s o.dst (.tuple [.bool false]), h⟩ Q)
    (q2 : ∀ p ∈ es, p.2.2 ∉ seen → AOps E ops r ⟨n, Slots.put n s o.dst (.tuple [.bool true, p.1, p.2.1]), h.set rid (.iter id since clock (seen ++ [p.2.2]))⟩ Q) : AOps E ops (o :: r) ⟨n, s, h⟩ Q :=
  aops_one hg (aope_of_gives (s := fun a => Instr.next (a.eval x) false o.type) (fun a => by simp [execOp, hop]) (fun c => by rw [hop]; simp) fun w0 g w a ra S => by
    have rx := ra.ev x
    simp only at rx
    rw [hx] at rx
    obtain ⟨b, hb, hv⟩ := ptr_blk rx
    obtain ⟨hbase, hid, mb, hmb, hib⟩ := iter_block S hi hb
    obtain ⟨hbase2, ces, h2, hl, he⟩ := map_block S ho hmb
    have hmem : ∀ e ∈ ces.toList, ∃ p ∈ es, EntryRel g p e := fun e hm => by
      obtain ⟨i, hi, rfl⟩ := List.getElem_of_mem hm
      have hi2 : i < ces.size := by simpa using hi
      exact ⟨es[i], List.getElem_mem (by omega), by simpa using he i (by omega) hi2⟩
    have hnx := run_next_at (P := P) w o.type b mb since last seen.toArray ces clock hib h2 (fun e hm => by obtain ⟨p, hp, hr⟩ := hmem e hm; rw [← hr.2.2]; exact hold p hp) hsl
    rcases hnx with ⟨h0, hrun⟩ | ⟨e, hel, w1, hw1, hrun⟩
    · refine ⟨_, _, q1 fun p hp => ?_, _, w, g, by rw [hv]; exact hrun, .refl g, .tuple _ _ rfl (fun i h1 h2 => by
        have : i = 0 := by simp at h1; omega
        subst this
        exact .bool _), S⟩
      obtain ⟨i, hi, rfl⟩ := List.getElem_of_mem hp
      have hr := he i hi (by omega)
      refine Classical.byContradiction fun hn => ?_
      have : ces[i]'(by omega) ∈ (leftOf ces seen.toArray).toList := by
        unfold leftOf
        simp only [Array.toList_filter, List.mem_filter, Array.mem_toList_iff]
        refine ⟨Array.getElem_mem _, ?_⟩
        have h3 : (ces[i]'(by omega)).born ∉ seen := by rw [← hr.2.2]; exact hn
        simpa using h3
      have h4 : (leftOf ces seen.toArray).toList = [] := by simpa using h0
      rw [h4] at this
      cases this
    · have hec : e ∈ ces.toList ∧ e.born ∉ seen := by
        unfold leftOf at hel
        simp only [Array.toList_filter, List.mem_filter] at hel
        exact ⟨hel.1, by simpa using hel.2⟩
      obtain ⟨p, hp, hr⟩ := hmem e hec.1
      have S1 : Sim w0 g h w1 := by rcases hw1 with rfl | rfl; exact S; exact S.drew
      have hib1 : w1.heap[b]? = some (.mapIter (some mb) since seen.toArray last) := by rcases hw1 with rfl | rfl <;> exact hib
      refine ⟨_, _, q2 p hp (by rw [hr.2.2]; exact hec.2), _, _, g, by rw [hv]; exact hrun, .refl g, .tuple _ _ rfl (fun i h1 h2 => by
        have : i = 0 ∨ i = 1 ∨ i = 2 := by simp at h1; omega
        rcases this with rfl | rfl | rfl
        · exact .bool _
        · exact hr.1
        · exact hr.2.1), ?_⟩
      refine turn_blk S1 hi (by simp) (by rw [hb]; rfl) hib1 (fun a => by unfold World.cell?; simp only [hib1]) ?_
      rw [hb]
      refine ⟨hbase, hid, mb, hmb, ?_⟩
      rw [setBlock_get hib1, hr.2.2]
      simp)
theorem aops_entry {ops : Array Oper} {o : Oper} {r : List Oper} {n : Nat} {s : Slots} {h : AHeap} {Q : ASt → Prop} {id rid clock since : Nat} {seen : List Nat} {es : List (AV × AV × Nat)} {x : Operand} {p : AV × AV × Nat} (hop : o.op = .entry x) (hg : o.guard = none)
    (hx : Slots.ev s x = .ptr rid 0) (hi : h[rid]? = some (.iter id since clock (seen ++ [p.2.2]))) (ho : h[id]? = some (.map es clock)) (hp : p ∈ es) (hn : (es.map (·.2.2)).Nodup)
    (q : AOps E ops r ⟨n, Slots.put n s o.dst (.tuple [p.1, p.2.1]), h⟩ Q) : AOps E ops (o :: r) ⟨n, s, h⟩ Q :=
  aops_one hg (aope_of_gives (s := fun a => Instr.entry (a.eval x)) (fun a => by simp [execOp, hop]) (fun c => by rw [hop]; simp) fun w0 g w a ra S => by
    have rx := ra.ev x
    simp only at rx
    rw [hx] at rx
    obtain ⟨b, hb, hv⟩ := ptr_blk rx
    obtain ⟨hbase, hid, mb, hmb, hib⟩ := iter_block S hi hb
    obtain ⟨hbase2, ces, h2, hl, he⟩ := map_block S ho hmb
    obtain ⟨i, hi2, rfl⟩ := List.getElem_of_mem hp
    have hr := he i hi2 (by omega)
    have hborn : ces.toList.map (·.born) = es.map (·.2.2) := by
      apply List.ext_getElem
      · simp [hl]
      · intro j h1 h2
        simp only [List.getElem_map, Array.getElem_toList]
        exact (he j (by simpa using h2) (by simpa using h1)).2.2.symm
    have hrun := run_entry_at (P := P) w b mb since seen.toArray ces clock (ces[i]'(by omega)) (by rw [hib, hr.2.2]; simp) h2 (by simp) (by rw [hborn]; exact hn)
    exact ⟨_, _, q, _, w, g, by rw [hv]; exact hrun, .refl g, .tuple _ _ rfl (fun j h1 h2 => by
        have : j = 0 ∨ j = 1 := by simp at h1; omega
        rcases this with rfl | rfl
        · exact hr.1
        · exact hr.2.1), S⟩)
end
end Go.Proofs.Ytajgeofhlgoifaa.V
