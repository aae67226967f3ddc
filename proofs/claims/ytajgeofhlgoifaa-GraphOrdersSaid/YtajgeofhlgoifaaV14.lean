/- Operations on the heap: make, an array's slice; what is fixed from now on. No program is named here. -/
import Derived.Test.YtajgeofhlgoifaaV13
set_option linter.unusedVariables false
set_option linter.unusedSimpArgs false
namespace Go.Proofs.Ytajgeofhlgoifaa.V
open Go Go.RowKit

def ahMake (P : Program) (t : TypeId) (l c : AV) (h : AHeap) : Option (AV × AHeap) :=
  match P.underlying t, l, c with
  | some (.slice e), .int _ l, .int _ c =>
    match sizeT P e, bytesT P e, zeroA P e with
    | some k, some by_, some z =>
      if z.known = true ∧ z.cells.length = k ∧ 0 < k ∧ 0 ≤ l ∧ l ≤ c ∧ (by_ : Int) * c ≤ 140737488355328 ∧ c ≤ 140737488355328 then some (.list (List.replicate l.toNat z) (.own h.length), h ++ [.tail e k]) else none
    | _, _, _ => none
  | _, _, _ => none
def ahSliceArr (P : Program) (t : TypeId) (x : AV) (lo hi mx : Option Operand) (h : AHeap) : Option (AV × AHeap) :=
  match P.underlying t, x, lo, hi, mx with
  | some (.array n e), .ptr id 0, none, none, none =>
    match sizeT P e, isAggT P e, h[id]? with
    | some k, some agg, some (.fixed cs) => if 0 < k ∧ 0 < n ∧ n * k = cs.length ∧ n ≤ 140737488355328 ∧ (agg = true ∨ (k = 1 ∧ ones cs = true)) then some (.list (chunk agg k n cs) .full, h) else none
    | _, _, _ => none
  | _, _, _, _, _ => none

section
variable {P : Program} {w0 w : World} {g : Ghost} {h : AHeap}
theorem ahMake_sound {t : TypeId} {l c z : AV} {h' : AHeap} (S : Sim w0 g h w) (e : ahMake P t l c h = some (z, h')) {vl vc : Value} (hl : VRel g l vl) (hc : VRel g c vc) : Gives P w0 g w z h' (Instr.makeSlice t vl vc) := by
  unfold ahMake at e
  split at e
  · rename_i el kl l kc c ht
    rw [hl.int_eq, hc.int_eq]
    split at e
    · rename_i k by_ za hs hb hz
      split at e
      · rename_i hcond
        obtain ⟨hkn, hzk, hk, h0, hlc, hbb, hcm⟩ := hcond
        injection e with e
        simp only [Prod.mk.injEq] at e
        obtain ⟨rfl, rfl⟩ := e
        have hzc : zeroCells P el = some za.cells := by simp [zeroCells, hz, hkn]
        obtain ⟨it, zv, hi, hzv, hzr⟩ := zeroCells_spec (P := P) (g := g) hzc
        have hzs : zv.cells.size = k := by have := hzr.1; simp at this; omega
        have hsz : it.size = k := by simpa [sizeT, hi] using hs
        have hby : it.bytes = by_ := by simpa [bytesT, hi] using hb
        have hrun := run_make (P := P) w t el it zv ht hi hzv kl kc l c h0 hlc (by rw [hby]; omega) (by omega)
        rw [hsz] at hrun
        have hun : uni k (List.replicate l.toNat za) = true := by
          unfold uni; rw [List.all_eq_true]
          intro x hx
          rw [List.eq_of_mem_replicate hx]; simp [hzk]
        have hcs : (madeCells zv.cells (c.toNat * k)).size = c.toNat * k := size_madeCells _ _
        have hlc' : l.toNat ≤ c.toNat := by omega
        obtain ⟨g1, lg, hat, hn1, hpast, S1, L1⟩ := new_list S hun (madeCells zv.cells (c.toNat * k)) el (0, 0) (fun i n _ _ => frozen_no (heap_alloc_new w _)) (by rw [hcs]; simp; exact Nat.mul_le_mul_right k hlc') (fun j hj i hi' => by
          have hj' : j < l.toNat := by simpa using hj
          have hx : (List.replicate l.toNat za)[j] = za := List.getElem_replicate ..
          simp only [hx] at hi' ⊢
          have hik : i < k := by omega
          have hlt : j * k + i < c.toNat * k := jk_lt (by omega) hik
          have hm : (j * k + i) % k = i := by rw [Nat.mul_comm, Nat.mul_add_mod, Nat.mod_eq_of_lt hik]
          have hg : (madeCells zv.cells (c.toNat * k)).getD (j * k + i) .nilIface = zv.cells[i]'(by omega) := by
            simp [madeCells, Array.getD_eq_getD_getElem?, hlt, hzs, hm, getElem!_pos zv.cells i (by omega)]
          rw [hg]
          have := hzr.2 i hi' (by simp; omega)
          simpa using this)
        have hrl : (List.replicate l.toNat za).length = l.toNat := by simp
        have hm2 : c.toNat ≤ maxLen := by unfold maxLen; omega
        have S2 := tok_tail (b := w.heap.size) (n := l.toNat) (cap := c.toNat) (k := k) (e := el) S1 S.below.size (heap_alloc_new w _) hlc' hm2 hcs (fun o ho => hpast o (by rw [hrl]; exact ho)) (fun id o ho hd e => by
          rw [hat] at e; exact S.fresh (Nat.le_refl _) id o ho hd e)
        have L2 : ListAt (g1.push (.tail (.slice (some ⟨w.heap.size, 0, none⟩) l.toNat c.toNat))) (List.replicate l.toNat za) k (some ⟨w.heap.size, 0, none⟩) w.heap.size 0 (fun q => (madeCells zv.cells (c.toNat * k)).getD q .nilIface) :=
          ⟨L1.ha, L1.cell, fun j hj i hi => (L1.rel j hj i hi).mono (Ghost.push_le _ _)⟩
        have V := VRel.of_listAt (t := .own h.length) (c := c.toNat) hun L2 (by rw [hrl]; exact hlc') hm2 (fun h => by cases h) (by rw [hrl]; exact tok_rel (by rw [S.n, hn1]) (.inl rfl) _ _)
        rw [hrl] at V
        exact ⟨_, _, _, hrun, lg.trans (Ghost.push_le _ _), V, S2⟩
      · cases e
    · cases e
  · cases e
theorem ahSliceArr_sound {t : TypeId} {x z : AV} {lo hi mx : Option Operand} {h' : AHeap} (S : Sim w0 g h w) (e : ahSliceArr P t x lo hi mx h = some (z, h')) {vx : Value} (hx : VRel g x vx) (f : Operand → Value) :
    Gives P w0 g w z h' (Instr.sliceAt t vx (lo.map f) (hi.map f) (mx.map f)) := by
  unfold ahSliceArr at e
  split at e
  · rename_i n el id hu
    obtain ⟨hid, b, hb, rfl⟩ := hx.ptr_eq
    split at e
    · rename_i k agg cs hs ha ho
      split at e
      · rename_i hc
        obtain ⟨hk, hn, hnk, hn2, hone⟩ := hc
        injection e with e
        simp only [Prod.mk.injEq] at e
        obtain ⟨rfl, rfl⟩ := e
        have ho' := S.obj id _ ho
        rw [hb] at ho'
        obtain ⟨_, hbl, u, hu2⟩ := ho'
        obtain ⟨hun, hcc⟩ := chunk_cells agg k n cs (by omega) hone
        have hl := chunk_length agg k n cs
        have L : ListAt g (chunk agg k n cs) k (some ⟨b, 0, none⟩) b 0 u := by
          refine ⟨fun _ => rfl, fun j hj i hi => ?_, fun j hj i hi => ?_⟩
          · rw [Nat.zero_add]
            exact (hu2 (j * k + i) (by rw [← hnk]; exact jk_lt (by omega) hi)).1
          · have hik : i < k := by rw [← uni_spec hun j hj]; exact hi
            have hlt : j * k + i < cs.length := by rw [← hnk]; exact jk_lt (by omega) hik
            have := hcc j hj i hik
            rw [List.getElem?_eq_getElem hi, List.getElem?_eq_getElem hlt] at this
            injection this with this
            rw [this]; exact (hu2 _ hlt).2
        have V := VRel.of_listAt (t := .full) (c := n) hun L (by omega) (by unfold maxLen; omega) (fun h => by cases h) (by show n = _; omega)
        rw [hl] at V
        refine ⟨_, w, g, ?_, .refl g, V, S⟩
        have hn0 : ¬ n = 0 := by omega
        simp [Instr.sliceAt, run_underlying hu, Instr.sureAddr, Instr.sliceBounds, sizeT_run hs, Sem.run_bind, hn0, Addr.add]
      · cases e
    · cases e
  · cases e
/-- From now on a variable stays as it is. -/
theorem Sim.freeze (S : Sim w0 g h w) {id : Nat} {cs : List AV} (ho : h[id]? = some (.cells cs)) : ∃ g', g.le g' ∧ Sim w0 g' (h.set id (.fixed cs)) w := by
  have ho' := S.obj id _ ho
  have hlt : id < h.length := (List.getElem?_eq_some_iff.1 ho).1
  cases hat : g.at_ id with
  | tail v => rw [hat] at ho'; exact ho'.elim
  | loose v => rw [hat] at ho'; exact ho'.elim
  | blk b =>
    rw [hat] at ho'
    obtain ⟨h1, ⟨vs, t, h2, h3⟩, h4⟩ := ho'
    have hlen : cs.length = vs.size := by simpa using h3.1
    have S1 := S.kill ho
    have hown : ∀ i o, (h.set id .dead)[i]? = some o → o ≠ .dead → (g.at_ i).block ≠ some b := fun i o hi hd e1 => by
      by_cases hne : id = i
      · subst hne
        rw [List.getElem?_set_self hlt] at hi
        injection hi with hi; exact hd hi.symm
      · rw [List.getElem?_set_ne hne] at hi
        exact hne (S.sep id i _ o b ho hi (by simp) hd (by rw [hat]; rfl) e1)
    obtain ⟨l, S2⟩ := S1.fix (b := b) (lo := 0) (m := cs.length) (u := fun i => vs.getD i .nilIface) (fun i _ hi => by
      rw [cell_of_row _ _ _ _ _ _ h2]
      simp [Array.getD_eq_getD_getElem?, show i < vs.size by omega]) (fun i _ _ _ _ => frozen_no h2) hown
    refine ⟨_, l, S2.below, by have := S2.n; simpa using this, S2.imm, S2.soft, fun i o hi => ?_, fun i j oi oj b' hi hj di dj bi bj => ?_, S2.pin, fun i oi b' hi di bi => ?_, S2.b0, S2.drawn⟩
    · by_cases hne : id = i
      · subst hne
        rw [List.getElem?_set_self hlt] at hi
        injection hi with hi
        subst hi
        show ORel _ _ _ (g.at_ id) _
        rw [hat]
        refine ⟨h1, (Array.getElem?_eq_some_iff.1 h2).1, fun i => vs.getD i .nilIface, fun i hi => ⟨Ghost.fix_at (Nat.zero_le _) hi, ?_⟩⟩
        have := (h3.2 i hi (by simp; omega)).mono l
        simpa [Array.getD_eq_getD_getElem?, show i < vs.size by omega] using this
      · rw [List.getElem?_set_ne hne] at hi
        exact S2.obj i o (by rw [List.getElem?_set_ne hne]; exact hi)
    · have key : ∀ (i : Nat) (x : AObj), (h.set id (.fixed cs))[i]? = some x → x ≠ .dead → ∃ y, h[i]? = some y ∧ y ≠ .dead := fun i x hx hd => by
        by_cases hne : id = i
        · subst hne; exact ⟨_, ho, by simp⟩
        · rw [List.getElem?_set_ne hne] at hx; exact ⟨x, hx, hd⟩
      obtain ⟨p, hp, dp⟩ := key i oi hi di
      obtain ⟨q, hq, dq⟩ := key j oj hj dj
      exact S.sep i j p q b' hp hq dp dq bi bj
    · by_cases hne : id = i
      · subst hne; exact S.free id _ b' ho (by simp) bi
      · rw [List.getElem?_set_ne hne] at hi; exact S.free i oi b' hi di bi
end
theorem awp_freeze {P : Program} {E : Env P} {c : Code} {Q : Post} {n : Nat} {s : Slots} {h : AHeap} (id : Nat) {cs : List AV} (ho : h[id]? = some (.cells cs)) (k : AWP E c Q ⟨n, s, h.set id (.fixed cs)⟩) : AWP E c Q ⟨n, s, h⟩ := fun m w0 g w a hC r S => by
  obtain ⟨g', l, S'⟩ := S.freeze ho
  exact wpIn_mono (k m w0 g' w a (E.mono l hC) ((r.mono l).heap _) S') fun e a w ⟨st, g2, l2, r2, S2, q⟩ => ⟨st, g2, l.trans l2, r2, S2, q⟩
end Go.Proofs.Ytajgeofhlgoifaa.V
