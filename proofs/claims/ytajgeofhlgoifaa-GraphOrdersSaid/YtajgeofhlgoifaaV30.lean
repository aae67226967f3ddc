/- A slice that grew is fixed, where a variable holds it. No program is named here. -/
import Derived.Test.YtajgeofhlgoifaaV29
set_option linter.unusedVariables false
set_option linter.unusedSimpArgs false
namespace Go.Proofs.Ytajgeofhlgoifaa.V
open Go Go.RowKit
section
variable {P : Program} {E : Env P} {w0 w : World} {g : Ghost} {h : AHeap}
theorem flatk_get {k : Nat} (hk : 0 < k) : ∀ (xs : List AV), uni k xs = true → ∀ (j i : Nat), i < k → (xs.flatMap AV.cells)[j * k + i]? = (xs[j]?).bind fun x => x.cells[i]?
  | [], hu, j, i, hi => by simp
  | x :: r, hu, j, i, hi => by
    have hx : x.cells.length = k := uni_spec hu 0 (by simp)
    have hr : uni k r = true := by unfold uni at hu ⊢; rw [List.all_cons, Bool.and_eq_true] at hu; exact hu.2
    cases j with
    | zero =>
      simp only [List.flatMap_cons, Nat.zero_mul, Nat.zero_add]
      rw [List.getElem?_append_left (by omega)]
      simp
    | succ j =>
      simp only [List.flatMap_cons]
      rw [List.getElem?_append_right (by rw [hx, Nat.add_mul]; omega), hx]
      have e : (j + 1) * k + i - k = j * k + i := by rw [Nat.add_mul]; omega
      rw [e, flatk_get hk r hr j i hi]
      simp
theorem flatk_len {k : Nat} : ∀ (xs : List AV), uni k xs = true → (xs.flatMap AV.cells).length = xs.length * k
  | [], hu => by simp
  | x :: r, hu => by
    have hx : x.cells.length = k := uni_spec hu 0 (by simp)
    have hr : uni k r = true := by unfold uni at hu ⊢; rw [List.all_cons, Bool.and_eq_true] at hu; exact hu.2
    simp only [List.flatMap_cons, List.length_append, flatk_len r hr, hx, List.length_cons, Nat.add_mul]
    omega
theorem freeze_k (S : Sim w0 g h w) {id n c k : Nat} {cs xs : List AV} (ho : h[id]? = some (.cells cs)) (hx : cs.take (n * k) = xs.flatMap AV.cells) (hn : xs.length = n) (hu : uni k xs = true) (hk : 0 < k) (hnl : n * k ≤ cs.length) :
    ∃ g', g.le g' ∧ Sim w0 g' (h.set id .dead) w ∧ ∀ v, VRel g' (.arr id 0 n c) v → VRel g' (.list xs .no) v := by
  have hO := S.obj id _ ho
  have hid := (List.getElem?_eq_some_iff.1 ho).1
  cases hat : g.at_ id with
  | tail v => rw [hat] at hO; exact hO.elim
  | loose v => rw [hat] at hO; exact hO.elim
  | blk b =>
    rw [hat] at hO
    obtain ⟨hbase, ⟨vs, tt, h2, h3⟩, h4⟩ := hO
    have hlen : cs.length = vs.size := by simpa using h3.1
    have S1 := S.kill ho
    have hown : ∀ i o, (h.set id .dead)[i]? = some o → o ≠ .dead → (g.at_ i).block ≠ some b := fun i o hi hd e1 => by
      by_cases hne : id = i
      · subst hne
        rw [List.getElem?_set_self hid] at hi
        injection hi with hi; exact hd hi.symm
      · rw [List.getElem?_set_ne hne] at hi
        exact hne (S.sep id i _ o b ho hi (by simp) hd (by rw [hat]; rfl) e1)
    obtain ⟨l, S2⟩ := S1.fix (b := b) (lo := 0) (m := n * k) (u := fun q => vs.getD q .nilIface) (fun i _ hi => by
      rw [cell_of_row _ _ _ _ _ _ h2]
      simp [Array.getD_eq_getD_getElem?, show i < vs.size by omega]) (fun i _ _ _ _ => frozen_no h2) hown
    refine ⟨_, l, S2, fun v hv => ?_⟩
    obtain ⟨_, b', o, hb, hc, hm, ho0, rfl⟩ := hv.arr_eq
    have hb : g.at_ id = .blk b' := hb
    rw [hat] at hb
    injection hb with hb
    subst hb
    subst hn
    refine VRel.list xs .no (some ⟨b, o, none⟩) c k b 0 (fun q => vs.getD q .nilIface) hc hm (fun e => by cases e) (fun j hj => uni_spec hu j hj) (fun h0 => by rw [ho0 (by omega)]) (fun j hj i hi => ?_) (fun j hj i hi => ?_) trivial
    · rw [Nat.zero_add]
      rw [uni_spec hu j hj] at hi
      exact Ghost.fix_at (Nat.zero_le _) (jk_lt hj hi)
    · have hi' := hi
      rw [uni_spec hu j hj] at hi'
      have hq := jk_lt hj hi'
      have hq2 : j * k + i < cs.length := by omega
      have e1 := flatk_get hk xs hu j i hi'
      rw [← hx, List.getElem?_take, if_pos hq, List.getElem?_eq_getElem hq2, List.getElem?_eq_getElem hj] at e1
      simp only [Option.bind_some, List.getElem?_eq_getElem hi, Option.some.injEq] at e1
      have := h3.2 (j * k + i) hq2 (by simp; omega)
      rw [e1] at this
      have e2 : vs.getD (j * k + i) .nilIface = vs.toList[j * k + i]'(by simp; omega) := by simp [Array.getD_eq_getD_getElem?, show j * k + i < vs.size by omega]
      show VRel _ _ (vs.getD (j * k + i) .nilIface)
      rw [e2]
      exact this.mono l
/-- A variable's cell is known otherwise. -/
theorem Sim.recell (S : Sim w0 g h w) {tid : Nat} {ts ts' : List AV} (ho : h[tid]? = some (.cells ts)) (hl : ts'.length = ts.length) (hr : ∀ (i : Nat) (x y : AV) (v : Value), ts[i]? = some x → ts'[i]? = some y → VRel g x v → VRel g y v) : Sim w0 g (h.set tid (.cells ts')) w := by
  have hO := S.obj tid _ ho
  cases hat : g.at_ tid with
  | tail v => rw [hat] at hO; exact hO.elim
  | loose v => rw [hat] at hO; exact hO.elim
  | blk b =>
    rw [hat] at hO
    obtain ⟨hbase, ⟨vs, tt, h2, h3⟩, h4⟩ := hO
    refine S.turn (o' := .cells ts') ho (by simp) (b := b) (by rw [hat]; rfl) (Nat.le_refl _) rfl rfl rfl (fun k _ _ => rfl) (fun o v e => by rw [h4 o] at e; cases e) (fun o v e => by rw [h4 o] at e; cases e) ?_
    rw [hat]
    refine ⟨hbase, ⟨vs, tt, h2, by rw [hl]; exact h3.1, fun i a b => ?_⟩, h4⟩
    have ha : i < ts.length := by omega
    exact hr i ts[i] ts'[i] _ (List.getElem?_eq_getElem ha) (List.getElem?_eq_getElem a) (h3.2 i ha b)
theorem awp_fixk {id n c k m tid off : Nat} {cs ts xs : List AV} {code : Code} {Q : Post} {s : Slots} {h : AHeap} (ho : h[id]? = some (.cells cs)) (hx : cs.take (n * k) = xs.flatMap AV.cells) (hn : xs.length = n) (hu : uni k xs = true) (hk : 0 < k) (hnl : n * k ≤ cs.length)
    (ht : h[tid]? = some (.cells ts)) (htv : ts[off]? = some (.arr id 0 n c)) (hne : id ≠ tid)
    (q : AWP E code Q ⟨m, s, (h.set id .dead).set tid (.cells (ts.set off (.list xs .no)))⟩) : AWP E code Q ⟨m, s, h⟩ := fun m' w0 g w a hC r S => by
  obtain ⟨g', l, S', hv⟩ := freeze_k S (c := c) ho hx hn hu hk hnl
  have S2 := S'.recell (tid := tid) (ts := ts) (ts' := ts.set off (.list xs .no)) (by rw [List.getElem?_set_ne hne]; exact ht) (by simp) fun i x y v hi hy hv0 => by
    rw [List.getElem?_set] at hy
    split at hy
    · rename_i e
      subst e
      rw [htv] at hi
      injection hi with hi
      subst hi
      split at hy
      · injection hy with hy
        subst hy
        exact hv v hv0
      · cases hy
    · rw [hi] at hy
      injection hy with hy
      subst hy
      exact hv0
  exact wpIn_mono (q m' w0 g' w a (E.mono l hC) ((r.mono l).heap _) S2) fun e a w ⟨s2, g2, l2, r2, S2, q⟩ => ⟨s2, g2, l.trans l2, r2, S2, q⟩
end
end Go.Proofs.Ytajgeofhlgoifaa.V
