/- Operations on the heap: variables. No program is named here. -/
import Derived.Test.YtajgeofhlgoifaaV9
import Derived.Laws.CopyRow
set_option linter.unusedVariables false
set_option linter.unusedSimpArgs false
namespace Go.Proofs.Ytajgeofhlgoifaa.V
open Go Go.RowKit

def AV.one : AV → Bool
  | .undef => false
  | .agg _ => false
  | .tuple _ => false
  | _ => true
def ones (xs : List AV) : Bool := xs.all AV.one
theorem AV.one_spec {g : Ghost} {x : AV} {v : Value} (h : x.one = true) (r : VRel g x v) : v.oneCell' = true := by
  cases r <;> first | rfl | cases h
def ahNew (x : AV) (h : AHeap) : Option (AV × AHeap) := if x.known = true then some (.ptr h.length 0, h ++ [.cells x.cells]) else none
def ahLoad (P : Program) (t : TypeId) (x : AV) (h : AHeap) : Option (AV × AHeap) :=
  match x with
  | .ptr id off => match h[id]? with
    | some (.cells cs) => (partA P t cs off).map fun y => (y, h)
    | some (.fixed cs) => (partA P t cs off).map fun y => (y, h)
    | _ => none
  | _ => none
/-- A number that is there already. -/
def sameNum (x : Option AV) (y : AV) (n : Option Nat) : Bool :=
  match x, y, n with
  | some (.int .i64 a), .int .i64 b, some 1 => a == b
  | _, _, _ => false
theorem sameNum_eq {x : Option AV} {y : AV} {n : Option Nat} (h : sameNum x y n = true) : ∃ a, x = some (.int .i64 a) ∧ y = .int .i64 a ∧ n = some 1 := by
  unfold sameNum at h
  split at h
  · simp at h; subst h; exact ⟨_, rfl, rfl, rfl⟩
  · cases h
def ahStore (P : Program) (t : TypeId) (x y : AV) (h : AHeap) : Option (AV × AHeap) :=
  match x with
  | .ref cs off => if sameNum cs[off]? y (sizeT P t) = true then some (.undef, h) else none
  | .ptr id off => match h[id]?, sizeT P t with
    | some (.cells cs), some n => if y.known = true ∧ ones y.cells = true ∧ y.cells.length = n ∧ off + n ≤ cs.length then some (.undef, h.set id (.cells (over cs off y.cells))) else none
    | _, _ => none
  | _ => none

/-- A computation that may write: the value, and the heap then. -/
def Gives (P : Program) (w0 : World) (g : Ghost) (w : World) (x : AV) (h' : AHeap) (s : Sem Value) : Prop :=
  ∃ v w' g', s.run P w = .ok v w' ∧ g.le g' ∧ VRel g' x v ∧ Sim w0 g' h' w'

section
variable {P : Program} {w0 w : World} {g : Ghost} {h : AHeap}
theorem Gives.of_yield {x : AV} {s : Sem Value} (S : Sim w0 g h w) (y : Yield P g x s) : Gives P w0 g w x h s := by
  obtain ⟨v, hv, hr⟩ := y
  exact ⟨v, w, g, hr w S.agree, .refl g, hv, S⟩
theorem alloc_below (w : World) (o : Obj) : Below w.heap.size w (w.alloc o) := (Below.refl _ _).alloc (Nat.le_refl _) o
theorem new_obj (S : Sim w0 g h w) {cs : List AV} {vs : Array Value} (t : TypeId) (hc : CellsRel g cs vs.toList) :
    g.le (g.push (.blk w.heap.size)) ∧ Sim w0 (g.push (.blk w.heap.size)) (h ++ [.cells cs]) (w.alloc (.cells vs t)) ∧ VRel (g.push (.blk w.heap.size)) (.ptr h.length 0) (.pointer (some ⟨w.heap.size, 0, none⟩)) := by
  have S1 := S.keep (alloc_below w (.cells vs t))
  have l := Ghost.push_le g (.blk w.heap.size)
  have hsz : w0.heap.size ≤ w.heap.size := S.below.size
  refine ⟨l, S1.push ⟨hsz, ⟨vs, t, heap_alloc_new w _, hc.mono l⟩, fun o => S.fresh_imm (Nat.le_refl _) o⟩ (fun id o' ho hd b hb e => ?_) (fun b hb => ?_), ?_⟩
  · injection hb with hb
    subst hb
    exact S.fresh (Nat.le_refl _) id o' ho hd e
  · injection hb with hb
    subst hb
    exact S.fresh_pin (Nat.le_refl _)
  · refine .ptr _ _ _ ?_ ?_
    · rw [S.n]; exact Nat.lt_succ_self _
    · rw [S.n]; exact Ghost.push_at g _
theorem ahNew_box {x z : AV} {h' : AHeap} (S : Sim w0 g h w) (e : ahNew x h = some (z, h')) (t : TypeId) {v : Value} (hx : VRel g x v) : Gives P w0 g w z h' (Instr.box t v) := by
  unfold ahNew at e
  split at e
  · rename_i hk
    injection e with e
    simp only [Prod.mk.injEq] at e
    obtain ⟨rfl, rfl⟩ := e
    have hne : x ≠ .undef := by rintro rfl; cases hk
    obtain ⟨c1, c2⟩ := hx.cells hne
    obtain ⟨l, S', r⟩ := new_obj S (cs := x.cells) (vs := v.cells) t ⟨by simpa using c1, fun i a b => by have := c2 i a (by simpa using b); simpa using this⟩
    exact ⟨_, _, _, by simp [Instr.box, newVar, newRow, newObj, Sem.run_bind, Sem.run], l, r, S'⟩
  · cases e
theorem ahNew_alloc {t : TypeId} {x z : AV} {h' : AHeap} (S : Sim w0 g h w) (hx : zeroA P t = some x) (e : ahNew x h = some (z, h')) (old : Value) : Gives P w0 g w z h' (Instr.alloc t true old) := by
  unfold zeroA at hx
  cases hi : P.info? t with
  | none => simp [hi] at hx
  | some it =>
    cases hz : it.zero with
    | none => simp [hi, hz] at hx
    | some zv =>
      have hz1 : AV.ofConst zv = x := by simpa [hi, hz] using hx
      have hzr : VRel g x zv := by rw [← hz1]; exact .ofConst g zv
      obtain ⟨v, w', g', hr, l, r, S'⟩ := ahNew_box (P := P) S e t hzr
      refine ⟨v, w', g', ?_, l, r, S'⟩
      have : (Instr.alloc t true old).run P w = (Instr.box t zv).run P w := by
        cases old <;> simp [Instr.alloc, Instr.box, zeroValue, typeInfo, hi, hz, Sem.run_bind]
      rw [this]; exact hr
theorem block_cells {cs : List AV} (S : Sim w0 g h w) {id b : Nat} (ho : h[id]? = some (.cells cs)) (hb : g.at_ id = .blk b) : w0.heap.size ≤ b ∧ ∃ vs t, w.heap[b]? = some (.cells vs t (0, 0)) ∧ CellsRel g cs vs.toList ∧ ∀ o, g.imm b o = none := by
  have := S.obj id _ ho
  rw [hb] at this
  obtain ⟨h1, ⟨vs, t, h2, h3⟩, h4⟩ := this
  exact ⟨h1, vs, t, h2, h3, h4⟩
/-- A part of a row of cells is read. -/
theorem load_part {t : TypeId} {cs : List AV} {off : Nat} {x : AV} (hp : partA P t cs off = some x) (b o : Nat) (u : Nat → Value) (hu : ∀ i (h : i < cs.length), VRel g cs[i] (u i)) :
    ∃ v, VRel g x v ∧ ∀ w : World, (∀ i, i < cs.length → w.cell? ⟨b, o + i, none⟩ = some (u i)) → (Instr.loadAt t (.pointer (some ⟨b, o + off, none⟩))).run P w = .ok v w := by
  unfold partA at hp
  cases ha : isAggT P t with
  | none => rw [ha] at hp; cases hp
  | some bb =>
    rw [ha] at hp
    cases bb with
    | true =>
      cases hs : sizeT P t with
      | none => rw [hs] at hp; cases hp
      | some n =>
        rw [hs] at hp
        simp only at hp
        split at hp
        · rename_i hl
          injection hp with hp; subst hp
          refine ⟨.agg ((List.range n).map fun i => u (off + i)).toArray, .agg _ _ (by simp; omega) fun i a c => ?_, fun w hag => ?_⟩
          · simp only [List.getElem_toArray, List.getElem_map, List.getElem_range, List.getElem_take, List.getElem_drop]
            exact hu (off + i) (by simp at a; omega)
          · have hc : ∀ j v, ((List.range n).map fun i => u (off + i))[j]? = some v → w.cell? ((⟨b, o + off, none⟩ : Addr).add j) = some v := fun j v hj => by
              rw [Addr.add_lit]
              obtain ⟨hj1, hj2⟩ := List.getElem?_eq_some_iff.1 hj
              simp at hj1 hj2
              rw [← hj2, Nat.add_assoc]
              exact hag (off + j) (by omega)
            have hl := run_loadCells_list (P := P) w ⟨b, o + off, none⟩ _ hc
            have hlen : ((List.range n).map fun i => u (off + i)).length = n := by simp
            rw [hlen] at hl
            simp only [Instr.loadAt, Instr.sureAddr, loadVar, Sem.run_bind, Sem.run_pure, Result.andThen_ok, isAggT_run ha, if_true, sizeT_run hs, hl]
        · cases hp
    | false =>
      simp only at hp
      obtain ⟨hl, he⟩ := List.getElem?_eq_some_iff.1 hp
      refine ⟨u off, by rw [← he]; exact hu off hl, fun w hag => ?_⟩
      have := hag off hl
      simp [Instr.loadAt, Instr.sureAddr, loadVar, Sem.run_bind, isAggT_run ha, run_load, this]
/-- What a load of a variable reads: it stands as long as the variable's block. -/
theorem ahLoad_run {t : TypeId} {x z : AV} {h' : AHeap} (S : Sim w0 g h w) (e : ahLoad P t x h = some (z, h')) {vx : Value} (hx : VRel g x vx) :
    h' = h ∧ ∃ id off, x = .ptr id off ∧ ∃ v, VRel g z v ∧ ∀ w' : World, Agree g w' → (∀ b, (g.at_ id).block = some b → w'.heap[b]? = w.heap[b]?) → (Instr.loadAt t vx).run P w' = .ok v w' := by
  unfold ahLoad at e
  split at e
  · rename_i id off
    obtain ⟨hid, b, hb, rfl⟩ := hx.ptr_eq
    split at e
    · rename_i cs ho
      cases hp : partA P t cs off with
      | none => rw [hp] at e; cases e
      | some y =>
        rw [hp] at e
        simp only [Option.map_some, Option.some.injEq, Prod.mk.injEq] at e
        obtain ⟨rfl, rfl⟩ := e
        obtain ⟨_, vs, tt, h2, h3, _⟩ := block_cells S ho hb
        have hlen : cs.length = vs.size := by simpa using h3.1
        obtain ⟨v, hv, hr⟩ := load_part (P := P) (g := g) hp b 0 (fun i => vs.getD i .nilIface) (fun i hi => by
          have := h3.2 i hi (by simp; omega)
          simpa [Array.getD_eq_getD_getElem?, show i < vs.size by omega] using this)
        refine ⟨rfl, id, off, rfl, v, hv, fun w' _ hbk => ?_⟩
        have := hr w' (fun i hi => by
          have hw : w'.heap[b]? = some (.cells vs tt (0, 0)) := (hbk b (by rw [hb]; rfl)).trans h2
          rw [cell_of_row w' b (0 + i) vs tt (0, 0) hw]
          have : i < vs.size := by omega
          simp [Array.getD_eq_getD_getElem?, this])
        simpa using this
    · rename_i cs ho
      cases hp : partA P t cs off with
      | none => rw [hp] at e; cases e
      | some y =>
        rw [hp] at e
        simp only [Option.map_some, Option.some.injEq, Prod.mk.injEq] at e
        obtain ⟨rfl, rfl⟩ := e
        have ho' := S.obj id _ ho
        rw [hb] at ho'
        obtain ⟨_, _, u, hu⟩ := ho'
        obtain ⟨v, hv, hr⟩ := load_part (P := P) (g := g) hp b 0 u (fun i hi => (hu i hi).2)
        refine ⟨rfl, id, off, rfl, v, hv, fun w' hag _ => ?_⟩
        have := hr w' (fun i hi => hag b (0 + i) _ (by simpa using (hu i hi).1))
        simpa using this
    · cases e
  · cases e
theorem ahLoad_sound {t : TypeId} {x z : AV} {h' : AHeap} (S : Sim w0 g h w) (e : ahLoad P t x h = some (z, h')) {vx : Value} (hx : VRel g x vx) : Gives P w0 g w z h' (Instr.loadAt t vx) := by
  obtain ⟨rfl, id, off, _, v, hv, hr⟩ := ahLoad_run S e hx
  exact ⟨v, w, g, hr w S.agree (fun _ _ => rfl), .refl g, hv, S⟩
theorem over_toArray (vs us : List Value) (off : Nat) : (vs.take off ++ us ++ vs.drop (off + us.length)).toArray.size = (vs.take off ++ us ++ vs.drop (off + us.length)).length := by simp
theorem overV_get {cs xs : List Value} {off i : Nat} (hl : off + xs.length ≤ cs.length) : (cs.take off ++ xs ++ cs.drop (off + xs.length))[i]? = if off ≤ i ∧ i < off + xs.length then xs[i - off]? else cs[i]? := by
  by_cases h1 : i < off
  · rw [if_neg (by omega), List.append_assoc, List.getElem?_append_left (by simp; omega), List.getElem?_take, if_pos h1]
  · by_cases h2 : i < off + xs.length
    · rw [if_pos (by omega), List.append_assoc, List.getElem?_append_right (by simp; omega), List.getElem?_append_left (by simp; omega)]
      congr 1; simp; omega
    · rw [if_neg (by omega), List.getElem?_append_right (by simp; omega), List.getElem?_drop]
      congr 1; simp; omega
theorem CellsRel.over {cs xs : List AV} {vs us : List Value} {off : Nat} (h : CellsRel g cs vs) (k : CellsRel g xs us) (hl : off + xs.length ≤ cs.length) : CellsRel g (over cs off xs) (vs.take off ++ us ++ vs.drop (off + us.length)) := by
  have h1 := h.1
  have h2 := k.1
  refine CellsRel.of_get? (by simp [V.over]; omega) fun i x v hx hv => ?_
  rw [over_get hl] at hx
  rw [overV_get (by omega)] at hv
  by_cases hin : off ≤ i ∧ i < off + xs.length
  · rw [if_pos hin] at hx
    rw [if_pos (by omega)] at hv
    obtain ⟨v2, e2, r⟩ := k.get? hx
    rw [e2] at hv; injection hv with hv; rw [← hv]; exact r
  · rw [if_neg hin] at hx
    rw [if_neg (by omega)] at hv
    obtain ⟨v2, e2, r⟩ := h.get? hx
    rw [e2] at hv; injection hv with hv; rw [← hv]; exact r
theorem setCell_same {w : World} {a : Addr} {v : Value} (h : w.cell? a = some v) : w.setCell a v = w := by
  unfold World.cell? at h
  have e0 : w.setCell a v = { w with heap := (w.setCell a v).heap } := rfl
  cases hb : w.heap[a.block]? with
  | none => rw [hb] at h; cases h
  | some o =>
    rw [hb] at h
    cases o with
    | cells c t fr =>
      simp only at h
      split at h
      · cases h
      · rename_i hs
        have e1 : (w.setCell a v).heap = w.heap := by
          unfold World.setCell
          apply Array.ext_getElem?
          intro k
          rw [Array.getElem?_modify]
          split
          · rename_i hk
            subst hk
            rw [hb]
            simp only [Option.map_some, hs, Bool.false_eq_true, if_false]
            congr 2
            apply Array.ext_getElem?
            intro j
            rw [Array.getElem?_setIfInBounds]
            split
            · rename_i hj; subst hj
              split
              · rw [h]
              · rename_i hq; rw [Array.getElem?_eq_none (by omega)]
            · rfl
          · rfl
        rw [e0, e1]
    | _ => cases h
theorem ahStore_sound {t : TypeId} {x y z : AV} {h' : AHeap} (S : Sim w0 g h w) (e : ahStore P t x y h = some (z, h')) {vx vy : Value} (hx : VRel g x vx) (hy : VRel g y vy) :
    ∃ w', (Instr.storeAt t vx vy).run P w = .ok () w' ∧ z = .undef ∧ Sim w0 g h' w' := by
  unfold ahStore at e
  split at e
  · rename_i cs off
    split at e
    · rename_i hsn
      obtain ⟨n, hc, rfl, hs⟩ := sameNum_eq hsn
      injection e with e
      simp only [Prod.mk.injEq] at e
      obtain ⟨rfl, rfl⟩ := e
      obtain ⟨b, o, u, rfl, h1, h2⟩ := hx.ref_eq
      obtain ⟨hl, hce⟩ := List.getElem?_eq_some_iff.1 hc
      have h3 := h1 off hl
      have h4 := h2 off hl
      rw [hce] at h4
      rw [h4.int_eq] at h3
      have hcell := S.imm _ _ _ h3
      have hfr := S.soft _ _ _ h3
      rw [hy.int_eq]
      refine ⟨w, ?_, rfl, S⟩
      have hset : w.setCell ⟨b, o + off, none⟩ (.int .i64 n) = w := setCell_same hcell
      simp only [Instr.storeAt, Instr.sureAddr, Sem.run_bind, Sem.run_pure, Result.andThen_ok, storeVar, sizeT_run hs]
      simp [Value.cells, storeCells, Addr.add, hcell, hfr, hset, store, Sem.run]
    · cases e
  · rename_i id off
    obtain ⟨hid, b, hb, rfl⟩ := hx.ptr_eq
    split at e
    · rename_i cs n ho hs
      split at e
      · rename_i hc
        obtain ⟨hk, h1, hn, hfit⟩ := hc
        injection e with e
        simp only [Prod.mk.injEq] at e
        obtain ⟨rfl, rfl⟩ := e
        have hne : y ≠ .undef := by rintro rfl; cases hk
        obtain ⟨c1, c2⟩ := hy.cells hne
        obtain ⟨hbase, vs, tt, h2, h3, h4⟩ := block_cells S ho hb
        have hlen : cs.length = vs.size := by simpa using h3.1
        have hone : ∀ v ∈ vy.cells.toList, v.oneCell' = true := fun v hv => by
          obtain ⟨i, hi, rfl⟩ := List.getElem_of_mem hv
          have hi' : i < y.cells.length := by simp at hi; omega
          have := List.all_eq_true.1 h1 y.cells[i] (List.getElem_mem hi')
          have r := c2 i hi' (by simpa using hi)
          exact AV.one_spec this (by simpa using r)
        have hst := run_storeCells_at P b off tt vy.cells.toList 0 vs w h2 (by simp; omega) hone
        refine ⟨w.setRow b (vs.toList.take (off + 0) ++ vy.cells.toList ++ vs.toList.drop (off + 0 + vy.cells.toList.length)).toArray, ?_, (rfl : AV.undef = AV.undef), ?_⟩
        · have hsz : vy.cells.size = n := by omega
          simp only [Instr.storeAt, Instr.sureAddr, Sem.run_bind, Sem.run_pure, Result.andThen_ok, storeVar, sizeT_run hs, hsz, ne_eq, not_true_eq_false, if_false]
          exact hst
        · have hr : (w.setRow b (vs.toList.take (off + 0) ++ vy.cells.toList ++ vs.toList.drop (off + 0 + vy.cells.toList.length)).toArray).heap[b]? = some (.cells (vs.toList.take (off + 0) ++ vy.cells.toList ++ vs.toList.drop (off + 0 + vy.cells.toList.length)).toArray tt (0, 0)) := setRow_heap w b vs _ tt _ h2
          refine S.turn (o' := .cells (V.over cs off y.cells)) ho (by simp) (b := b) (by rw [hb]; rfl) (by simp [World.setRow]) rfl rfl rfl (fun k _ hk => setRow_other w b k _ hk) (fun o v e => by rw [h4 o] at e; cases e) (fun o v e => by rw [h4 o] at e; cases e) ?_
          rw [hb]
          refine ⟨hbase, ⟨_, tt, hr, ?_⟩, h4⟩
          simp only [Nat.add_zero]
          exact h3.over (xs := y.cells) (us := vy.cells.toList) ⟨by simpa using c1, fun i a b => by have := c2 i a (by simpa using b); simpa using this⟩ (by omega)
      · cases e
    · cases e
  · cases e
end
end Go.Proofs.Ytajgeofhlgoifaa.V
