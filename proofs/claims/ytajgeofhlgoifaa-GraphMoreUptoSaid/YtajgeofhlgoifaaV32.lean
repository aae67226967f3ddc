/- How plain data that came in stands as abstract values, and how much it is at the least of the reading's bulk. No program is named here. -/
import Derived.Test.YtajgeofhlgoifaaV28
import Derived.Test.YtajgeofhlgoifaaRows
set_option linter.unusedVariables false
set_option linter.unusedSimpArgs false
namespace Go.Proofs.Ytajgeofhlgoifaa.V
open Go Go.RowKit Go.WideShapes
def BOpens {α : Type} (P : Program) (t : TypeId) (f : α → List AV) (G : α → Prop) (m : α → Nat) : Prop :=
  ∀ (H : Type) (enc : TypeId × Value → H) (w : World) (fuel : Nat) (cs : List Value) (x : DataW H × List MemPlace), DataW.trod enc P w 0 (fun _ => true) true fuel t cs = some x → w.noneFrozen x.2 → ∃ a, G a ∧ m a ≤ Rows.uptoBulk x.1 ∧ CellsRel (g0 w) (f a) cs
theorem sum_le {α H : Type} (m : α → Nat) : ∀ (l : List α) (es : List (DataW H)), l.length = es.length → (∀ i (h1 : i < l.length) (h2 : i < es.length), m l[i] ≤ Rows.uptoBulk es[i]) → (l.map m).sum ≤ Rows.uptoBulkAll es
  | [], [], _, _ => by simp
  | [], _ :: _, h, _ => by simp at h
  | _ :: _, [], h, _ => by simp at h
  | a :: l, e :: es, h, hh => by
    have h0 := hh 0 (by simp) (by simp)
    have ih := sum_le m l es (by simpa using h) fun i h1 h2 => hh (i + 1) (Nat.succ_lt_succ h1) (Nat.succ_lt_succ h2)
    simp only [List.getElem_cons_zero] at h0
    simp only [List.map_cons, List.sum_cons, Rows.uptoBulkAll]
    omega
section
variable {P : Program} {t e : TypeId}
theorem bopens_int {k : IntKind} (ht : P.underlying t = some (.int k)) : BOpens P t (fun n : Int => [.int k n]) (fun n => (Lit.int k n).wf = true) (fun _ => 1) := fun H enc w fuel cs x h hnf => by
  obtain ⟨n, rfl, hx, hw⟩ := DataW.trod_int ht h
  exact ⟨n, hw, by rw [hx]; simp [Rows.uptoBulk], cells_cons (.int _ _) (cells_nil _)⟩
theorem bopens_bool (ht : P.underlying t = some .bool) : BOpens P t (fun b : Bool => [.bool b]) (fun _ => True) (fun _ => 1) := fun H enc w fuel cs x h hnf => by
  obtain ⟨b, rfl, hx⟩ := DataW.trod_bool ht h
  exact ⟨b, trivial, by rw [hx]; simp [Rows.uptoBulk], cells_cons (.bool _) (cells_nil _)⟩
theorem bopens_str (ht : P.underlying t = some .string) : BOpens P t (fun l : List UInt8 => [.str l]) (fun l => l.length ≤ 9223372036854775807) (fun l => l.length + 1) := fun H enc w fuel cs x h hnf => by
  obtain ⟨s, rfl, hx, hs⟩ := DataW.trod_string ht h
  refine ⟨s.data.toList, ?_, by rw [hx]; simp [Rows.uptoBulk], cells_cons (rel_str _ _) (cells_nil _)⟩
  have : s.data.toList.length = s.size := rfl
  unfold maxLen at hs; omega
theorem bopens_sl {α : Type} {f : α → List AV} {G : α → Prop} {m0 : α → Nat} {sz : Nat} (ht : P.underlying t = some (.slice e)) (hs : P.cellsOf e = sz) (hs0 : 0 < sz) (he : BOpens P e f G m0) (el : α → AV) (hel : ∀ a, (el a).cells = f a) (hlen : ∀ a, (f a).length = sz) :
    BOpens P t (fun l : List α => [.list (l.map el) .no]) (fun l => l.length ≤ 9223372036854775807 ∧ ∀ a ∈ l, G a) (fun l => (l.map m0).sum + 1) := fun H enc w fuel cs x h hnf => by
  rcases Deep.open_slice ht h with ⟨rfl, hx0⟩ | ⟨a, len, cap, m, n, D, Pl, rfl, _, hl, hm, hmd, hxe, hx⟩
  · refine ⟨[], ⟨by simp, fun a h => by simp at h⟩, (by rw [hx0]; simp [Rows.uptoBulk]), cells_cons ?_ (cells_nil _)⟩
    exact VRel.list [] .no none 0 0 0 0 (fun _ => .nilIface) (by simp) (by simp) (fun _ => rfl) (fun j h => by simp at h) (fun h => by simp at h) (fun j h => by simp at h) (fun j h => by simp at h) trivial
  · obtain rfl : m = cap := by simpa using hmd
    have hrow : ∀ i, i < m * sz → w.frozen? ⟨a.block, a.off + i, none⟩ = false := fun i hi => hnf _ _ (by
      rw [hxe]
      refine List.mem_append_left _ ?_
      unfold MemPlace.row
      rw [hs]
      exact List.mem_map.2 ⟨i, List.mem_range.2 hi, rfl⟩)
    have hy : ∀ i, i < len → ∃ y : α, ∃ ecs : List Value, w.cells? 0 (a.add (i * sz)) sz = some ecs ∧ G y ∧ CellsRel (g0 w) (f y) ecs ∧ m0 y ≤ Rows.uptoBulk (D i) := fun i hi => by
      obtain ⟨cs', hc, ht'⟩ := hx i (by omega)
      rw [hs] at hc
      obtain ⟨y, hy1, hy2, hy3⟩ := he H enc w n cs' _ ht' (fun b off hm' => hnf b off (by
        rw [hxe]
        exact List.mem_append_right _ (List.mem_flatMap.2 ⟨i, List.mem_range.2 (by omega), hm'⟩)))
      exact ⟨y, cs', hc, hy1, hy3, hy2⟩
    have hspot : 0 < len → a.spot = none := fun h0 => by
      obtain ⟨y, ecs, hc, _, _⟩ := hy 0 h0
      obtain ⟨_, hlen', hcell⟩ := World.cells?_some hc
      have h2 := hcell 0 hs0
      have h3 : ecs[0]? = some ecs[0] := List.getElem?_eq_getElem (by omega)
      rw [h3] at h2
      have := World.cell?_spot h2
      simpa [Addr.add] using this
    let F : (i : Nat) → i < len → α := fun i hi => Classical.choose (hy i hi)
    have hF : ∀ i (hi : i < len), ∃ ecs : List Value, w.cells? 0 (a.add (i * sz)) sz = some ecs ∧ G (F i hi) ∧ CellsRel (g0 w) (f (F i hi)) ecs ∧ m0 (F i hi) ≤ Rows.uptoBulk (D i) := fun i hi => Classical.choose_spec (hy i hi)
    let l : List α := List.ofFn (n := len) fun i => F i.1 i.2
    have hll : l.length = len := by simp [l]
    have hli : ∀ i (hi : i < len), l[i]'(by rw [hll]; exact hi) = F i hi := fun i hi => by simp [l]
    refine ⟨l, ⟨by rw [hll]; unfold maxLen at hm; omega, fun y hy' => ?_⟩, ?_, cells_cons ?_ (cells_nil _)⟩
    · obtain ⟨i, hi, rfl⟩ := List.getElem_of_mem hy'
      rw [hli i (by rw [← hll]; exact hi)]
      obtain ⟨_, _, hg, _, _⟩ := hF i (by rw [← hll]; exact hi)
      exact hg
    · rw [hxe]
      have h0 : (l.map m0).sum ≤ Rows.uptoBulkAll ((List.range len).map D) := sum_le m0 l _ (by simp [hll]) fun i h1 h2 => by
        have hi : i < len := by rw [← hll]; exact h1
        rw [hli i hi]
        obtain ⟨_, _, _, _, hb⟩ := hF i hi
        simpa using hb
      simp only [Rows.uptoBulk]
      omega
    · have hlm : (l.map el).length = len := by simp [hll]
      have hmi : ∀ j (hj : j < (l.map el).length), (l.map el)[j] = el (F j (by rw [← hlm]; exact hj)) := fun j hj => by
        have hj' : j < len := by rw [← hlm]; exact hj
        rw [List.getElem_map, hli j hj']
      obtain ⟨b, off, spot⟩ := a
      have V := VRel.list (g := g0 w) (l.map el) .no (some ⟨b, off, spot⟩) m sz b off (fun q => (w.cell? ⟨b, off + q, none⟩).getD .nilIface) (by rw [hlm]; exact hl) hm (fun h => by cases h)
        (fun j hj => by rw [hmi j hj, hel, hlen]) (fun h0 => by rw [hlm] at h0; have := hspot h0; simp only at this; rw [this])
        (fun j hj i hi => by
          have hj' : j < len := by rw [← hlm]; exact hj
          obtain ⟨ecs, hc, _, hr, _⟩ := hF j hj'
          rw [hmi j hj, hel] at hi
          obtain ⟨_, hlen', hcell⟩ := World.cells?_some hc
          have hsp : spot = none := hspot (by omega)
          subst hsp
          have hi2 : i < ecs.length := by rw [← hr.1]; exact hi
          have h2 := hcell i (by omega)
          rw [List.getElem?_eq_getElem hi2, Base.add_off, Base.add_off] at h2
          have e : off + j * sz + i = off + (j * sz + i) := by omega
          rw [e] at h2
          show imm0 w b (off + (j * sz + i)) = _
          rw [h2]
          refine imm0_of h2 (hrow (j * sz + i) ?_)
          have h3 : (j + 1) * sz ≤ m * sz := Nat.mul_le_mul_right sz (by omega)
          rw [Nat.add_mul, Nat.one_mul] at h3
          omega)
        (fun j hj i hi => by
          have hj' : j < len := by rw [← hlm]; exact hj
          obtain ⟨ecs, hc, _, hr, _⟩ := hF j hj'
          have e1 : (l.map el)[j].cells = f (F j hj') := by rw [hmi j hj, hel]
          have hi1 : i < (f (F j hj')).length := by rw [← e1]; exact hi
          obtain ⟨_, hlen', hcell⟩ := World.cells?_some hc
          have hsp : spot = none := hspot (by omega)
          subst hsp
          have hi2 : i < ecs.length := by rw [← hr.1]; exact hi1
          have h2 := hcell i (by omega)
          rw [List.getElem?_eq_getElem hi2, Base.add_off, Base.add_off] at h2
          have e : off + j * sz + i = off + (j * sz + i) := by omega
          rw [e] at h2
          have h3 := hr.2 i hi1 hi2
          have e2 : (l.map el)[j].cells[i] = (f (F j hj'))[i] := by simp only [e1]
          show VRel _ _ ((w.cell? ⟨b, off + (j * sz + i), none⟩).getD .nilIface)
          rw [e2, h2]; exact h3) trivial
      rw [hlm] at V
      exact V
/-- What the fields from a place on are. -/
def FBOpens {α : Type} (P : Program) (fs : List Field) (off tot : Nat) (f : α → List AV) (G : α → Prop) (m : α → Nat) : Prop :=
  ∀ (H : Type) (enc : TypeId × Value → H) (w : World) (n : Nat) (cs : List Value) (ys : List (DataW H × List MemPlace)), ys.length = fs.length → (∀ i (h1 : i < fs.length) (h2 : i < ys.length), DataW.trod enc P w 0 (fun _ => true) true n fs[i].type ((cs.drop fs[i].offset).take (P.cellsOf fs[i].type)) = some ys[i] ∧ w.noneFrozen ys[i].2) →
    ∃ a, G a ∧ m a ≤ Rows.uptoBulkAll (ys.map (·.1)) ∧ CellsRel (g0 w) (f a) ((cs.drop off).take tot)
theorem fbopens_nil {off : Nat} : FBOpens P [] off 0 (fun _ : Unit => []) (fun _ => True) (fun _ => 0) := fun H enc w n cs ys hl h => ⟨(), trivial, Nat.zero_le _, by simpa using cells_nil _⟩
theorem fbopens_cons {α β : Type} {fd : Field} {fs : List Field} {off k tot : Nat} {f1 : α → List AV} {G1 : α → Prop} {m1 : α → Nat} {f2 : β → List AV} {G2 : β → Prop} {m2 : β → Nat} (ho : fd.offset = off) (hk : P.cellsOf fd.type = k)
    (he : BOpens P fd.type f1 G1 m1) (hr : FBOpens P fs (off + k) tot f2 G2 m2) : FBOpens P (fd :: fs) off (k + tot) (fun p : α × β => f1 p.1 ++ f2 p.2) (fun p => G1 p.1 ∧ G2 p.2) (fun p => m1 p.1 + m2 p.2) := fun H enc w n cs ys hl h => by
  match ys, hl with
  | y :: ys, hl =>
    obtain ⟨hy, hnf⟩ := h 0 (by simp) (by simp)
    simp only [List.getElem_cons_zero] at hy hnf
    rw [ho, hk] at hy
    obtain ⟨a, ga, ma, ca⟩ := he H enc w n _ y hy hnf
    obtain ⟨b, gb, mb, cb⟩ := hr H enc w n cs ys (by simpa using hl) fun i h1 h2 => h (i + 1) (Nat.succ_lt_succ h1) (Nat.succ_lt_succ h2)
    refine ⟨(a, b), ⟨ga, gb⟩, ?_, ?_⟩
    · simp only [List.map_cons, Rows.uptoBulkAll]; omega
    · rw [List.take_add, List.drop_drop]
      exact cells_join ca cb
theorem bopens_struct {α : Type} {fs : Array Field} {sz : Nat} {f : α → List AV} {G : α → Prop} {m : α → Nat} (ht : P.underlying t = some (.struct fs)) (hs : P.cellsOf t = sz) (hf : FBOpens P fs.toList 0 sz f G m) : BOpens P t f G (fun a => m a + 1) := fun H enc w fuel cs x h hnf => by
  obtain ⟨xs, n, _, hxe, hl, hxl, hx⟩ := DataW.trod_struct ht h
  obtain ⟨a, ga, ma, ca⟩ := hf H enc w n cs xs (by simpa using hxl) fun i h1 h2 => by
    have hi' : i < fs.size := by simpa using h1
    refine ⟨?_, fun b off hm' => hnf b off (by rw [hxe]; exact List.mem_flatMap.2 ⟨xs[i], List.getElem_mem _, hm'⟩)⟩
    rw [hx i fs.toList[i] (by simp [hi']), List.getElem?_eq_getElem]
  refine ⟨a, ga, ?_, ?_⟩
  · rw [hxe]; simp only [Rows.uptoBulk]; omega
  · rw [List.drop_zero, List.take_of_length_le (by omega)] at ca
    exact ca
theorem bopens_map {α β : Type} {f : α → List AV} {G : α → Prop} {m : α → Nat} {f' : β → List AV} {G' : β → Prop} {m' : β → Nat} (g : α → β) (he : BOpens P t f G m) (hf : ∀ a, f' (g a) = f a) (hG : ∀ a, G a → G' (g a)) (hm : ∀ a, m' (g a) ≤ m a) : BOpens P t f' G' m' := fun H enc w fuel cs x h hnf => by
  obtain ⟨a, ga, ma, ca⟩ := he H enc w fuel cs x h hnf
  exact ⟨g a, hG a ga, Nat.le_trans (hm a) ma, by rw [hf]; exact ca⟩
end
end Go.Proofs.Ytajgeofhlgoifaa.V
