/- Operations on the heap: append. No program is named here. -/
import Derived.Test.YtajgeofhlgoifaaV11
set_option linter.unusedVariables false
set_option linter.unusedSimpArgs false
namespace Go.Proofs.Ytajgeofhlgoifaa.V
open Go Go.RowKit

def bytesT (P : Program) (t : TypeId) : Option Nat := (P.info? t).map (·.bytes)
def onesL (xs : List AV) : Bool := xs.all fun x => ones x.cells
/-- What is appended. -/
def newsA (P : Program) (t2 e : TypeId) (y : AV) : Option (List AV) :=
  match P.underlying t2, y with
  | some (.slice _), .list ys _ => some ys
  | some .string, .str s => match P.underlying e with
    | some (.int .u8) => some (s.map b8)
    | _ => none
  | _, _ => none
def ahAppend (P : Program) (t t2 : TypeId) (s y : AV) (h : AHeap) : Option (AV × AHeap) :=
  match P.underlying t with
  | some (.slice e) =>
    match sizeT P e, bytesT P e, zeroCells P e, newsA P t2 e y, s with
    | some k, some by_, some z, some ys, .list xs tok =>
      if z.length = k ∧ 0 < k ∧ uni k xs = true ∧ uni k ys = true ∧ onesL ys = true ∧ (xs.length + ys.length) * by_ ≤ 140737488355328 ∧ xs.length + ys.length ≤ 140737488355328 then
        match tok with
        | .no => none
        | .full => some (.list (xs ++ ys) (.own h.length), h ++ [.tail e k])
        | .own id => match h[id]? with
          | some (.tail e' k') => if e' = e ∧ k' = k then some (.list (xs ++ ys) (.own h.length), h.set id .dead ++ [.tail e k]) else none
          | _ => none
      else none
    | _, _, _, _, _ => none
  | _ => none

section
variable {P : Program} {w0 w : World} {g : Ghost} {h : AHeap}
/-- What is appended, as the model has it. -/
structure NewsAt (P : Program) (g : Ghost) (k : Nat) (x : Value) (ys : List AV) (news : List Value) : Prop where
  len : ∀ w, (Builtin.lenOf x).run P w = .ok ys.length w
  cells : ∀ w, Agree g w → (Builtin.firstCells k ys.length x).run P w = .ok news.toArray w
  size : news.length = ys.length * k
  rel : ∀ j (hj : j < ys.length) i (hi : i < ys[j].cells.length), VRel g ys[j].cells[i] (news.getD (j * k + i) .nilIface)
  one : ∀ v ∈ news, v.oneCell' = true
theorem jk_lt {j n i k : Nat} (hj : j < n) (hi : i < k) : j * k + i < n * k := by
  have : (j + 1) * k ≤ n * k := Nat.mul_le_mul_right k hj
  rw [Nat.add_mul] at this; omega
theorem ListAt.first {ys : List AV} {k : Nat} {a : Option Addr} {b o c : Nat} {u : Nat → Value} (hk : 0 < k) (L : ListAt g ys k a b o u) (hn : a = none → c = 0) (hc : ys.length ≤ c) :
    ∀ w, Agree g w → (Builtin.firstCells k ys.length (.slice a ys.length c)).run P w = .ok ((List.range (ys.length * k)).map u).toArray w := by
  intro w hag
  cases a with
  | none =>
    have : ys.length = 0 := by have := hn rfl; omega
    rw [this]
    simp [Builtin.firstCells]
  | some ad =>
    refine run_firstCells_some (P := P) w k ys.length ad ys.length c _ (by simp) fun q v hq => ?_
    obtain ⟨hq1, hq2⟩ := List.getElem?_eq_some_iff.1 hq
    simp at hq1 hq2
    have hpos : 0 < ys.length := by
      rcases Nat.eq_zero_or_pos ys.length with h | h
      · rw [h] at hq1; omega
      · exact h
    have := L.ha hpos
    injection this with this
    subst this
    have h2 := L.cell (q / k) ((Nat.div_lt_iff_lt_mul hk).2 hq1) (q % k) (Nat.mod_lt _ hk)
    rw [Nat.div_add_mod' q k] at h2
    rw [Addr.add_lit, ← hq2]
    exact hag _ _ _ h2
theorem ListAt.news {ys : List AV} {k : Nat} {a : Option Addr} {b o c : Nat} {u : Nat → Value} (hu : uni k ys = true) (h1 : onesL ys = true) (hk : 0 < k) (L : ListAt g ys k a b o u) (hn : a = none → c = 0) (hc : ys.length ≤ c) :
    NewsAt P g k (.slice a ys.length c) ys ((List.range (ys.length * k)).map u) := by
  have hget : ∀ q, q < ys.length * k → ∃ j i, ∃ hj : j < ys.length, i < k ∧ q = j * k + i := fun q hq =>
    ⟨q / k, q % k, (Nat.div_lt_iff_lt_mul hk).2 hq, Nat.mod_lt _ hk, (Nat.div_add_mod' q k).symm⟩
  refine ⟨fun w => rfl, fun w hag => ?_, by simp, fun j hj i hi => ?_, fun v hv => ?_⟩
  · exact L.first hk hn hc w hag
  · have hi' : i < k := by rw [← uni_spec hu j hj]; exact hi
    have := L.rel j hj i hi
    have hq := jk_lt hj hi'
    simpa [List.getD_eq_getElem?_getD, hq] using this
  · obtain ⟨q, hq, rfl⟩ := List.mem_map.1 hv
    obtain ⟨j, i, hj, hi, rfl⟩ := hget q (by simpa using hq)
    have hi' : i < ys[j].cells.length := by rw [uni_spec hu j hj]; exact hi
    have h2 := List.all_eq_true.1 h1 ys[j] (List.getElem_mem hj)
    have h3 := List.all_eq_true.1 h2 ys[j].cells[i] (List.getElem_mem hi')
    exact AV.one_spec h3 (L.rel j hj i hi')
theorem newsA_sound {t2 e : TypeId} {k : Nat} {y : AV} {ys : List AV} (hn : newsA P t2 e y = some ys) (hs : sizeT P e = some k) (hk : 0 < k) (hu : uni k ys = true) (h1 : onesL ys = true) {vy : Value} (hy : VRel g y vy) :
    (∃ news, NewsAt P g k vy ys news) ∧ (P.underlying t2 = some .string ∨ ∃ e2, P.underlying t2 = some (.slice e2)) := by
  unfold newsA at hn
  split at hn
  · rename_i e2 ys' tk hu2
    injection hn with hn; subst hn
    obtain ⟨a, c, rfl, hc, hm, hn, _, hL⟩ := hy.list_eq
    obtain ⟨b, o, u, L⟩ := hL k hu
    exact ⟨⟨_, L.news hu h1 hk hn hc⟩, .inr ⟨_, hu2⟩⟩
  · rename_i s hu2
    split at hn
    · rename_i he
      injection hn with hn; subst hn
      rw [hy.str_eq]
      have hk1 : s = [] ∨ k = 1 := by
        cases s with
        | nil => exact .inl rfl
        | cons c s => exact .inr (by have := uni_spec hu 0 (by simp); simp [b8, AV.cells] at this; omega)
      refine ⟨⟨Lib.strCells ⟨s.toArray⟩, fun w => ?_, fun w _ => ?_, ?_, fun j hj i hi => ?_, Lib.strCells_oneCell _⟩, .inl hu2⟩
      · have : (⟨s.toArray⟩ : ByteArray).size = (s.map b8).length := by simp; rfl
        rw [← this]; rfl
      · have : (s.map b8).length = (⟨s.toArray⟩ : ByteArray).size := by simp; rfl
        rw [this]
        exact Lib.run_firstCells_string w k ⟨s.toArray⟩
      · rw [Lib.strCells_length]
        show s.length = _
        rcases hk1 with rfl | rfl <;> simp
      · have hj' : j < s.length := by simpa using hj
        have : k = 1 := by rcases hk1 with rfl | h; · simp at hj'
                           · exact h
        subst this
        have hi0 : i = 0 := by simp [b8, AV.cells] at hi; exact hi
        subst hi0
        have h4 : (List.map b8 s)[j] = b8 s[j] := by simp
        simp only [h4, b8, AV.cells, List.getElem_cons_zero, Nat.mul_one, Nat.add_zero]
        have : (Lib.strCells ⟨s.toArray⟩).getD j .nilIface = .int .u8 (s[j].toNat : Int) := by
          simp [Lib.strCells, List.getD_eq_getElem?_getD, hj']
        rw [this]; exact .int _ _
    · cases hn
  · cases hn
theorem append_room (t t2 ty e : TypeId) {k : Nat} (ht : P.underlying t = some (.slice e)) (hs : sizeT P e = some k) (ht2 : P.underlying t2 = some .string ∨ ∃ e2, P.underlying t2 = some (.slice e2))
    {A : Option Addr} {n c : Nat} {x : Value} {ys : List AV} {news : List Value} (N : NewsAt P g k x ys news) (hag : Agree g w) (hr : n + ys.length ≤ c) :
    (Builtin.append_ #[t, t2] ty #[.slice A n c, x]).run P w = (match A with | some a => (do storeCells (a.add (n * k)) news; pure (.slice A (n + ys.length) c) : Sem Value) | none => pure (.slice A (n + ys.length) c)).run P w := by
  rcases ht2 with ht2 | ⟨e2, ht2⟩ <;> cases A <;> simp [Builtin.append_, run_underlying ht, run_underlying ht2, sizeT_run hs, N.len, N.cells w hag, hr, Sem.run_bind]
theorem append_grow (t t2 ty e : TypeId) {k : Nat} {i : TypeInfo} {z : Value} (ht : P.underlying t = some (.slice e)) (hs : sizeT P e = some k) (hi : P.info? e = some i) (hz : i.zero = some z) (ht2 : P.underlying t2 = some .string ∨ ∃ e2, P.underlying t2 = some (.slice e2))
    {A : Option Addr} {n c : Nat} {x : Value} {ys : List AV} {news olds : List Value} (N : NewsAt P g k x ys news) (hag : Agree g w) (hr : c < n + ys.length)
    (ho : (Builtin.firstCells k n (.slice A n c)).run P w.drew = .ok olds.toArray w.drew) (hb : (n + ys.length) * i.bytes ≤ 140737488355328) (h63 : n + ys.length ≤ 140737488355328) :
    (Builtin.append_ #[t, t2] ty #[.slice A n c, x]).run P w = .ok (.slice (some ⟨w.heap.size, 0, none⟩) (n + ys.length) (grownCap w (n + ys.length) c e))
        (w.drew.alloc (.cells (olds ++ news ++ (Builtin.zeroCells z.cells (grownCap w (n + ys.length) c e - (n + ys.length))).toList).toArray e)) := by
  have hn : ¬ (n + ys.length ≤ c) := by omega
  have h63' : ¬ (9223372036854775807 < ((n : Int) + (ys.length : Int))) := by omega
  have hfit := growslice_fits hr hb
  have h48' : ¬ (281474976710656 < Builtin.nextslicecap (n + ys.length) c * i.bytes) := by omega
  have hnc := N.cells w.drew (fun b o v h => by simpa using hag b o v h)
  have hsz : i.size = k := by simpa [sizeT, hi] using hs
  subst hsz
  rcases ht2 with ht2 | ⟨e2, ht2⟩
  · simp [Builtin.append_, run_underlying ht, run_underlying ht2, sizeOf, typeInfo, zeroValue, hi, hz, N.len, hn, h63', h48', Question.forced, hnc, ho, newRow, grownCap]
    try (congr 2; apply Array.ext'; simp [List.append_assoc])
  · simp [Builtin.append_, run_underlying ht, run_underlying ht2, sizeOf, typeInfo, zeroValue, hi, hz, N.len, hn, h63', h48', Question.forced, hnc, ho, newRow, grownCap]
    try (congr 2; apply Array.ext'; simp [List.append_assoc])
theorem Sim.kill (S : Sim w0 g h w) {id : Nat} {o : AObj} (ho : h[id]? = some o) : Sim w0 g (h.set id .dead) w := by
  have hlt : id < h.length := (List.getElem?_eq_some_iff.1 ho).1
  have key : ∀ (i : Nat) (x : AObj), (h.set id .dead)[i]? = some x → x ≠ .dead → h[i]? = some x := fun i x hx hd => by
    rw [List.getElem?_set] at hx
    split at hx
    · injection hx with hx
      exact absurd hx.symm hd
    · exact hx
  refine ⟨S.below, by simp [S.n], S.imm, S.soft, fun i x hx => ?_, fun i j oi oj b hi hj di dj => S.sep i j oi oj b (key i oi hi di) (key j oj hj dj) di dj, S.pin, fun i o b hi hd => S.free i o b (key i o hi hd) hd, S.b0, S.drawn⟩
  by_cases hd : x = .dead
  · subst hd; cases g.at_ i <;> trivial
  · exact S.obj i x (key i x hx hd)
theorem app_rel {xs ys : List AV} {k : Nat} (hux : uni k xs = true) {cells : Nat → Value} (h1 : ∀ j (hj : j < xs.length) i (hi : i < xs[j].cells.length), VRel g xs[j].cells[i] (cells (j * k + i)))
    (h2 : ∀ j (hj : j < ys.length) i (hi : i < ys[j].cells.length), VRel g ys[j].cells[i] (cells (xs.length * k + (j * k + i)))) :
    ∀ j (hj : j < (xs ++ ys).length) i (hi : i < (xs ++ ys)[j].cells.length), VRel g (xs ++ ys)[j].cells[i] (cells (j * k + i)) := by
  intro j hj i hi
  by_cases hx : j < xs.length
  · have e : (xs ++ ys)[j] = xs[j] := List.getElem_append_left hx
    simp only [e] at hi ⊢
    exact h1 j hx i hi
  · have hy : j - xs.length < ys.length := by simp at hj; omega
    have e : (xs ++ ys)[j] = ys[j - xs.length] := List.getElem_append_right (by omega)
    simp only [e] at hi ⊢
    have := h2 (j - xs.length) hy i hi
    have e2 : xs.length * k + ((j - xs.length) * k + i) = j * k + i := by
      rw [← Nat.add_assoc, ← Nat.add_mul]; congr 2; omega
    rwa [e2] at this
theorem uni_append {k : Nat} {xs ys : List AV} (hx : uni k xs = true) (hy : uni k ys = true) : uni k (xs ++ ys) = true := by
  unfold uni at *; simp only [List.all_append, Bool.and_eq_true]; exact ⟨hx, hy⟩
/-- The token of a row that is the call's own. -/
theorem tok_tail {g1 : Ghost} {w1 : World} (S : Sim w0 g1 h w1) {b n cap : Nat} {cur : Array Value} {e : TypeId} {k : Nat} (hb : w0.heap.size ≤ b) (hh : w1.heap[b]? = some (.cells cur e (0, 0))) (hn : n ≤ cap) (hm : cap ≤ maxLen) (hs : cur.size = cap * k)
    (hi : ∀ o, n * k ≤ o → g1.imm b o = none) (hown : ∀ id o, h[id]? = some o → o ≠ .dead → (g1.at_ id).block ≠ some b) :
    Sim w0 (g1.push (.tail (.slice (some ⟨b, 0, none⟩) n cap))) (h ++ [.tail e k]) w1 :=
  S.push ⟨b, n, cap, cur, rfl, hb, hh, hn, hm, hs, hi⟩ (fun id o ho hd b' hb' e => by
    injection hb' with hb'
    subst hb'
    exact hown id o ho hd e) (fun b' hb' => by
    injection hb' with hb'
    subst hb'
    exact S.pin_cells hh)
theorem tok_rel {g1 : Ghost} {s : Spot} {v : Value} (hn : h.length = g1.n) (hs : s = .tail v ∨ s = .loose v) (n c : Nat) : TokRel (g1.push s) v n c (.own h.length) := by
  refine ⟨by rw [hn]; exact Nat.lt_succ_self _, ?_⟩
  rw [hn, Ghost.push_at]
  rcases hs with rfl | rfl
  · exact .inl rfl
  · exact .inr rfl
theorem append_grow_case (S : Sim w0 g h w) (t t2 ty e : TypeId) {k by_ : Nat} {zc : List AV} (ht : P.underlying t = some (.slice e)) (hs : sizeT P e = some k) (hb : bytesT P e = some by_) (hz : zeroCells P e = some zc) (hzl : zc.length = k) (hk : 0 < k)
    (ht2 : P.underlying t2 = some .string ∨ ∃ e2, P.underlying t2 = some (.slice e2)) {xs ys : List AV} {A : Option Addr} {c b o : Nat} {u : Nat → Value} {x : Value} {news : List Value} (hux : uni k xs = true) (huy : uni k ys = true) (L : ListAt g xs k A b o u) (hn : A = none → c = 0) (hc : xs.length ≤ c)
    (N : NewsAt P g k x ys news) (hr : c < xs.length + ys.length) (hbb : (xs.length + ys.length) * by_ ≤ 140737488355328) (h63 : xs.length + ys.length ≤ 140737488355328) :
    Gives P w0 g w (.list (xs ++ ys) (.own h.length)) (h ++ [.tail e k]) (Builtin.append_ #[t, t2] ty #[.slice A xs.length c, x]) := by
  obtain ⟨it, zv, hi, hzv, hzr⟩ := zeroCells_spec (P := P) (g := g) hz
  have hby : it.bytes = by_ := by simpa [bytesT, hi] using hb
  have hzs : zv.cells.size = k := by have := hzr.1; simp at this; omega
  have hag : Agree g w.drew := fun b o v h => by simpa using S.imm b o v h
  have hrun := append_grow (P := P) (g := g) (w := w) t t2 ty e ht hs hi hzv ht2 N S.agree hr (L.first hk hn hc w.drew hag) (by rw [hby]; exact hbb) h63
  have hcap1 := grownCap_ge w (xs.length + ys.length) c e
  have hcap2 := grownCap_le_maxLen w (xs.length + ys.length) c e (by unfold maxLen; omega)
  generalize hcap : grownCap w (xs.length + ys.length) c e = cap at hrun hcap1 hcap2
  generalize hcells : ((List.range (xs.length * k)).map u ++ news ++ (Builtin.zeroCells zv.cells (cap - (xs.length + ys.length))).toList).toArray = cells at hrun
  have hol : ((List.range (xs.length * k)).map u).length = xs.length * k := by simp
  have hsz : cells.size = cap * k := by
    rw [← hcells]
    simp only [List.size_toArray, List.length_append, hol, N.size, Array.length_toList, size_zeroCells, hzs]
    rw [← Nat.add_mul, ← Nat.add_mul]; congr 1; omega
  have hg1 : ∀ q, q < xs.length * k → cells.getD q .nilIface = u q := fun q hq => by
    rw [← hcells]
    simp [Array.getD_eq_getD_getElem?, List.getElem?_append, hq]
  have hg2 : ∀ q, q < ys.length * k → cells.getD (xs.length * k + q) .nilIface = news.getD q .nilIface := fun q hq => by
    rw [← hcells]
    have h1 : ¬ (xs.length * k + q < xs.length * k) := by omega
    have h2 : xs.length * k + q - xs.length * k < news.length := by rw [N.size]; omega
    simp [Array.getD_eq_getD_getElem?, List.getElem?_append, N.size, hq, List.getD_eq_getElem?_getD]
    rw [if_neg (by omega)]; rfl
  have huu := uni_append hux huy
  obtain ⟨g1, l, hat, hn1, hpast, S1, L1⟩ := new_list S.drew huu cells e (0, 0) (fun i n _ _ => frozen_no (heap_alloc_new w.drew _)) (by rw [hsz, List.length_append]; exact Nat.mul_le_mul_right k hcap1)
    (app_rel hux (cells := fun q => cells.getD q .nilIface) (fun j hj i hi => by
      have hi' : i < k := by rw [← uni_spec hux j hj]; exact hi
      rw [hg1 _ (jk_lt hj hi')]; exact L.rel j hj i hi) (fun j hj i hi => by
      have hi' : i < k := by rw [← uni_spec huy j hj]; exact hi
      rw [hg2 _ (jk_lt hj hi')]; exact N.rel j hj i hi))
  have hsw : w.drew.heap.size = w.heap.size := rfl
  have hbl : w0.heap.size ≤ w.heap.size := S.below.size
  have S2 := tok_tail (b := w.heap.size) (n := xs.length + ys.length) (cap := cap) (k := k) S1 hbl (heap_alloc_new w.drew _) hcap1 hcap2 hsz (fun o ho => hpast o (by rw [List.length_append]; exact ho)) (fun id o ho hd e => by
    rw [hat] at e; exact S.fresh (Nat.le_refl _) id o ho hd e)
  have l2 := l.trans (Ghost.push_le g1 (.tail (.slice (some ⟨w.heap.size, 0, none⟩) (xs.length + ys.length) cap)))
  have L2 : ListAt (g1.push (.tail (.slice (some ⟨w.heap.size, 0, none⟩) (xs.length + ys.length) cap))) (xs ++ ys) k (some ⟨w.heap.size, 0, none⟩) w.heap.size 0 (fun q => cells.getD q .nilIface) :=
    ⟨L1.ha, L1.cell, fun j hj i hi => (L1.rel j hj i hi).mono (Ghost.push_le _ _)⟩
  have hlen : (xs ++ ys).length = xs.length + ys.length := List.length_append
  have V := VRel.of_listAt (t := .own h.length) (c := cap) huu L2 (by rw [hlen]; exact hcap1) hcap2 (fun h => by cases h) (by rw [hlen]; exact tok_rel (by rw [S.n, hn1]) (.inl rfl) _ _)
  rw [hlen] at V
  exact ⟨_, _, _, hrun, l2, V, S2⟩
end
end Go.Proofs.Ytajgeofhlgoifaa.V
