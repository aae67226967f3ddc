import Derived.Test.YtajgeofhlgoifaaGB
import Derived.Test.YtajgeofhlgoifaaV37
import Derived.Test.YtajgeofhlgoifaaIA
import Derived.Test.YtajgeofhlgoifaaV31
import Derived.Test.YtajgeofhlgoifaaV38
/- Groups of nodes that lead to each other, found with a stack: no program is named here. -/
set_option linter.unusedSectionVars false
set_option linter.unusedVariables false
namespace Go.Proofs.Ytajgeofhlgoifaa.Tar
variable {α : Type} [DecidableEq α]
section
variable (deps : α → List α) (done : α → Bool)
def Succ (x y : α) : Prop := y ∈ deps x ∧ done y = false
inductive Rt : α → α → Prop
  | refl (x : α) : Rt x x
  | step {x y z : α} : Succ deps done x y → Rt y z → Rt x z
end
variable {deps : α → List α} {done : α → Bool}
theorem Rt.trans {x y z : α} (a : Rt deps done x y) (b : Rt deps done y z) : Rt deps done x z := by
  induction a with
  | refl => exact b
  | step s _ ih => exact .step s (ih b)
theorem Rt.one {x y : α} (s : Succ deps done x y) : Rt deps done x y := .step s (.refl y)
theorem Rt.closed {S : α → Prop} (hS : ∀ x y, S x → Succ deps done x y → S y) {x y : α} (r : Rt deps done x y) (hx : S x) : S y := by
  induction r with
  | refl => exact hx
  | step s _ ih => exact ih (hS _ _ hx s)
def names (calls : List (α × Nat)) : List α := calls.map (·.1)
/-- What holds between two steps. -/
structure Inv (deps : α → List α) (done : α → Bool) (vis : List α) (low : α → Nat) (stk : List α) (calls : List (α × Nat)) : Prop where
  nd : vis.Nodup
  sub : ∀ x ∈ stk, x ∈ vis
  srt : stk.Pairwise fun a b => vis.idxOf a < vis.idxOf b
  psub : ∀ p ∈ names calls, p ∈ stk
  psrt : (names calls).Pairwise fun a b => vis.idxOf a < vis.idxOf b
  ndone : ∀ x ∈ vis, done x = false
  edge : ∀ A B p n q m, calls = A ++ (p, n) :: (q, m) :: B → 1 ≤ n ∧ (deps p)[n - 1]? = some q
  lowle : ∀ x ∈ stk, low x ≤ vis.idxOf x
  lowrt : ∀ x ∈ stk, ∃ w ∈ stk, vis.idxOf w = low x ∧ Rt deps done x w
  closed : ∀ x ∈ vis, x ∉ stk → ∀ y, Succ deps done x y → y ∈ vis ∧ y ∉ stk
  fin : ∀ x ∈ stk, x ∉ names calls → low x < vis.idxOf x
  up : ∀ x ∈ stk, x ∉ names calls → ∃ p ∈ names calls, vis.idxOf p < vis.idxOf x ∧ (∀ p' ∈ names calls, vis.idxOf p' < vis.idxOf x → vis.idxOf p' ≤ vis.idxOf p) ∧ low p ≤ low x
  proc : ∀ x ∈ stk, x ∉ names calls → ∀ y, Succ deps done x y → y ∈ vis ∧ (y ∈ stk → low x ≤ vis.idxOf y)
  procA : ∀ A v n, calls = A ++ [(v, n)] → (∀ i y, i < n → (deps v)[i]? = some y → done y = false → y ∈ vis ∧ (y ∈ stk → low v ≤ vis.idxOf y)) ∧
    ∀ q ∈ A, ∀ i y, i + 1 < q.2 → (deps q.1)[i]? = some y → done y = false → y ∈ vis ∧ (y ∈ stk → low q.1 ≤ vis.idxOf y)
  top : ∀ p ∈ names calls, ∀ x ∈ stk, vis.idxOf p ≤ vis.idxOf x → Rt deps done p x
variable {vis : List α} {low : α → Nat} {stk : List α} {calls A : List (α × Nat)} {v : α} {n : Nat}
theorem idx_inj {l : List α} {x y : α} (hx : x ∈ l) (h : l.idxOf x = l.idxOf y) : x = y := by
  have h1 := List.idxOf_lt_length_of_mem hx
  have h2 : l[l.idxOf x] = x := List.getElem_idxOf h1
  have h3 : l.idxOf y < l.length := by omega
  have h4 : l[l.idxOf y] = y := List.getElem_idxOf h3
  rw [← h2, ← h4]
  simp only [h]
theorem names_snoc : names (A ++ [(v, n)]) = names A ++ [v] := by simp [names]
theorem append_inj' {A A' : List (α × Nat)} {a b : α × Nat} (h : A ++ [a] = A' ++ [b]) : A = A' ∧ a = b := by
  have := List.append_inj' h rfl
  exact ⟨this.1, by simpa using this.2⟩
theorem idx_app {l : List α} {x z : α} (hx : x ∈ l) : (l ++ [z]).idxOf x = l.idxOf x := by
  rw [List.idxOf_append, if_pos hx]
theorem idx_new {l : List α} {z : α} (hz : z ∉ l) : (l ++ [z]).idxOf z = l.length := by
  rw [List.idxOf_append, if_neg hz]; simp
/-- The beginning: nothing is met. -/
theorem Inv.nil : Inv deps done ([] : List α) low [] [] where
  nd := .nil
  sub := by simp
  srt := .nil
  psub := by simp [names]
  psrt := .nil
  ndone := by simp
  edge := fun A B p n q m h => by simp at h
  lowle := by simp
  lowrt := by simp
  closed := by simp
  fin := by simp
  up := by simp
  proc := by simp
  procA := fun A v n h => by simp at h
  top := by simp [names]
/-- A new node is met. -/
theorem Inv.push (I : Inv deps done vis low stk (A ++ [(v, n)])) {x : α} (hx : (deps v)[n]? = some x) (hd : done x = false) (hv : x ∉ vis) (low' : α → Nat) (hl : low' x = vis.length) (hlo : ∀ y, y ≠ x → low' y = low y) :
    Inv deps done (vis ++ [x]) low' (stk ++ [x]) (A ++ [(v, n + 1)] ++ [(x, 0)]) := by
  have hns : x ∉ stk := fun h => hv (I.sub x h)
  have hnp : x ∉ names (A ++ [(v, n)]) := fun h => hns (I.psub x h)
  have nm : names (A ++ [(v, n + 1)] ++ [(x, 0)]) = names (A ++ [(v, n)]) ++ [x] := by simp [names]
  have lw : ∀ y ∈ stk, low' y = low y := fun y hy => hlo y fun e => hns (e ▸ hy)
  have ix : ∀ y ∈ vis, (vis ++ [x]).idxOf y = vis.idxOf y := fun y hy => idx_app hy
  have ixx : (vis ++ [x]).idxOf x = vis.length := idx_new hv
  have lt : ∀ y ∈ vis, vis.idxOf y < vis.length := fun y hy => List.idxOf_lt_length_of_mem hy
  have sv : v ∈ stk := I.psub v (by simp [names])
  have sx : Succ deps done v x := ⟨List.mem_of_getElem? hx, hd⟩
  have mem : ∀ y, y ∈ stk ++ [x] ↔ y ∈ stk ∨ y = x := fun y => by simp
  refine ⟨?_, ?_, ?_, ?_, ?_, ?_, ?_, ?_, ?_, ?_, ?_, ?_, ?_, ?_, ?_⟩
  · rw [List.nodup_append]; exact ⟨I.nd, by simp, fun a ha b hb => by simp at hb; subst hb; exact fun e => hv (e ▸ ha)⟩
  · intro y hy; rcases (mem y).1 hy with h | rfl
    · simp [I.sub y h]
    · simp
  · rw [List.pairwise_append]
    refine ⟨I.srt.imp_of_mem fun {a b} ha hb h => ?_, by simp, fun a ha b hb => ?_⟩
    · rw [ix _ (I.sub _ ha), ix _ (I.sub _ hb)]; exact h
    · simp at hb; subst hb; rw [ix _ (I.sub _ ha), ixx]; exact lt _ (I.sub _ ha)
  · rw [nm]; intro y hy; rcases List.mem_append.1 hy with h | h
    · simp [I.psub y h]
    · simp at h; simp [h]
  · rw [nm, List.pairwise_append]
    refine ⟨I.psrt.imp_of_mem fun {a b} ha hb h => ?_, by simp, fun a ha b hb => ?_⟩
    · rw [ix _ (I.sub _ (I.psub _ ha)), ix _ (I.sub _ (I.psub _ hb))]; exact h
    · simp at hb; subst hb; rw [ix _ (I.sub _ (I.psub _ ha)), ixx]; exact lt _ (I.sub _ (I.psub _ ha))
  · intro y hy; rcases List.mem_append.1 hy with h | h
    · exact I.ndone y h
    · simp at h; subst h; exact hd
  · intro A' B p k q m h
    rcases List.eq_nil_or_concat B with rfl | ⟨B', b, rfl⟩
    · have h' : (A ++ [(v, n + 1)]) ++ [(x, 0)] = (A' ++ [(p, k)]) ++ [(q, m)] := by simpa using h
      obtain ⟨e1, e2⟩ := append_inj' h'
      obtain ⟨_, e3⟩ := append_inj' e1
      injection e2 with e4 e5; injection e3 with e6 e7
      subst e4; subst e6; subst e7
      exact ⟨by omega, by simpa using hx⟩
    · have h' : (A ++ [(v, n + 1)]) ++ [(x, 0)] = (A' ++ (p, k) :: (q, m) :: B') ++ [b] := by simpa [List.concat_eq_append] using h
      obtain ⟨e1, _⟩ := append_inj' h'
      rcases List.eq_nil_or_concat B' with rfl | ⟨B2, b2, rfl⟩
      · have e1' : A ++ [(v, n + 1)] = (A' ++ [(p, k)]) ++ [(q, m)] := by simpa using e1
        obtain ⟨e2, e3⟩ := append_inj' e1'
        injection e3 with e4 e5
        exact I.edge A' [] p k q n (by rw [e2, e4]; simp)
      · have e1' : A ++ [(v, n + 1)] = (A' ++ (p, k) :: (q, m) :: B2) ++ [b2] := by simpa [List.concat_eq_append] using e1
        obtain ⟨e2, _⟩ := append_inj' e1'
        exact I.edge A' (B2 ++ [(v, n)]) p k q m (by rw [e2]; simp)
  · intro y hy; rcases (mem y).1 hy with h | rfl
    · rw [lw y h, ix _ (I.sub _ h)]; exact I.lowle y h
    · rw [hl, ixx]; exact Nat.le_refl _
  · intro y hy; rcases (mem y).1 hy with h | rfl
    · obtain ⟨w, hw, e, r⟩ := I.lowrt y h
      exact ⟨w, by simp [hw], by rw [lw y h, ix _ (I.sub _ hw)]; exact e, r⟩
    · exact ⟨y, by simp, by rw [hl, ixx], .refl _⟩
  · intro y hy hns2 z hz
    have hyx : y ≠ x := fun e => hns2 (by simp [e])
    have hyv : y ∈ vis := by simpa [hyx] using hy
    have hys : y ∉ stk := fun h => hns2 (by simp [h])
    obtain ⟨h1, h2⟩ := I.closed y hyv hys z hz
    have hzx : z ≠ x := fun e => hv (e ▸ h1)
    exact ⟨by simp [h1], by simp [h2, hzx]⟩
  · rw [nm]; intro y hy hp
    have hyx : y ≠ x := fun e => hp (by simp [e])
    have hys : y ∈ stk := by simpa [hyx] using hy
    rw [lw y hys, ix _ (I.sub _ hys)]
    exact I.fin y hys fun h => hp (by simp [h])
  · rw [nm]; intro y hy hp
    have hyx : y ≠ x := fun e => hp (by simp [e])
    have hys : y ∈ stk := by simpa [hyx] using hy
    obtain ⟨p, h1, h2, h3, h4⟩ := I.up y hys fun h => hp (by simp [h])
    have hpv := I.sub _ (I.psub _ h1)
    refine ⟨p, by simp [h1], ?_, ?_, ?_⟩
    · rw [ix _ hpv, ix _ (I.sub _ hys)]; exact h2
    · intro p' hp' hlt
      rw [ix _ (I.sub _ hys)] at hlt
      rcases List.mem_append.1 hp' with h | h
      · rw [ix _ (I.sub _ (I.psub _ h))] at hlt ⊢; rw [ix _ hpv]; exact h3 p' h hlt
      · simp at h; subst h; rw [ixx] at hlt; have := lt _ (I.sub _ hys); omega
    · rw [lw p (I.psub _ h1), lw y hys]; exact h4
  · rw [nm]; intro y hy hp z hz
    have hyx : y ≠ x := fun e => hp (by simp [e])
    have hys : y ∈ stk := by simpa [hyx] using hy
    obtain ⟨h1, h2⟩ := I.proc y hys (fun h => hp (by simp [h])) z hz
    refine ⟨by simp [h1], fun h => ?_⟩
    have hzx : z ≠ x := fun e => hv (e ▸ h1)
    rw [lw y hys, ix _ h1]
    exact h2 (by simpa [hzx] using h)
  · intro A' v' n' h
    obtain ⟨e1, e2⟩ := append_inj' h
    injection e2 with e3 e4; subst e3; subst e4; subst e1
    refine ⟨fun i y hi => by omega, fun q hq i y hi hy hdy => ?_⟩
    obtain ⟨pA, pB⟩ := I.procA A v n rfl
    have key : (y ∈ vis ∧ (y ∈ stk → low q.1 ≤ vis.idxOf y)) ∧ q.1 ∈ stk := by
      rcases List.mem_append.1 hq with h | h
      · exact ⟨pB q h i y hi hy hdy, I.psub _ (by simp [names]; exact .inl ⟨q.2, h⟩)⟩
      · simp at h; subst h; exact ⟨pA i y (by simpa using hi) hy hdy, sv⟩
    obtain ⟨⟨k1, k2⟩, k3⟩ := key
    refine ⟨by simp [k1], fun h => ?_⟩
    have hyx : y ≠ x := fun e => hv (e ▸ k1)
    rw [lw _ k3, ix _ k1]
    exact k2 (by simpa [hyx] using h)
  · rw [nm]; intro p hp y hy hle
    rcases List.mem_append.1 hp with h | h
    · rcases (mem y).1 hy with h2 | rfl
      · rw [ix _ (I.sub _ (I.psub _ h)), ix _ (I.sub _ h2)] at hle
        exact I.top p h y h2 hle
      · refine Rt.trans (I.top p h v sv ?_) (.one sx)
        have hps := I.psrt
        rw [names_snoc, List.pairwise_append] at hps
        rw [names_snoc] at h
        rcases List.mem_append.1 h with h3 | h3
        · exact Nat.le_of_lt (hps.2.2 p h3 v (by simp))
        · simp at h3; subst h3; exact Nat.le_refl _
    · simp at h; subst h
      rcases (mem y).1 hy with h2 | rfl
      · rw [ixx, ix _ (I.sub _ h2)] at hle; have := lt _ (I.sub _ h2); omega
      · exact .refl _
theorem names_n (m : Nat) : names (A ++ [(v, m)]) = names (A ++ [(v, n)]) := by simp [names]
/-- What was looked at: done, closed, or met already; an open one lowers. -/
theorem Inv.look (I : Inv deps done vis low stk (A ++ [(v, n)])) {x : α} (hx : (deps v)[n]? = some x) (hv : done x = false → x ∈ vis) (low' : α → Nat)
    (hl : low' v = if done x = false ∧ x ∈ stk then min (low v) (vis.idxOf x) else low v) (hlo : ∀ y, y ≠ v → low' y = low y) : Inv deps done vis low' stk (A ++ [(v, n + 1)]) := by
  have sv : v ∈ stk := I.psub v (by simp [names])
  have vp : v ∈ names (A ++ [(v, n)]) := by simp [names]
  have nm : names (A ++ [(v, n + 1)]) = names (A ++ [(v, n)]) := names_n _
  have hle : low' v ≤ low v := by rw [hl]; split <;> omega
  have hle2 : ∀ y, low' y ≤ low y := fun y => by
    by_cases e : y = v
    · subst e; exact hle
    · rw [hlo y e]; exact Nat.le_refl _
  have np : ∀ y, y ∉ names (A ++ [(v, n)]) → low' y = low y := fun y hy => hlo y fun e => hy (e ▸ vp)
  have noA : ∀ q ∈ A, q.1 ≠ v := fun q hq e => by
    have := I.psrt
    rw [names_snoc, List.pairwise_append] at this
    have h2 := this.2.2 q.1 (List.mem_map.2 ⟨q, hq, rfl⟩) v (by simp)
    rw [e] at h2; omega
  obtain ⟨pA, pB⟩ := I.procA A v n rfl
  refine ⟨I.nd, I.sub, I.srt, by rw [nm]; exact I.psub, by rw [nm]; exact I.psrt, I.ndone, ?_, fun y hy => Nat.le_trans (hle2 y) (I.lowle y hy), ?_, I.closed, ?_, ?_, ?_, ?_, by rw [nm]; exact I.top⟩
  · intro A' B p k q m h
    rcases List.eq_nil_or_concat B with rfl | ⟨B', b, rfl⟩
    · have h' : A ++ [(v, n + 1)] = (A' ++ [(p, k)]) ++ [(q, m)] := by simpa using h
      obtain ⟨e1, e2⟩ := append_inj' h'
      injection e2 with e4 e5
      exact I.edge A' [] p k q n (by rw [e1, e4]; simp)
    · have h' : A ++ [(v, n + 1)] = (A' ++ (p, k) :: (q, m) :: B') ++ [b] := by simpa [List.concat_eq_append] using h
      obtain ⟨e1, e2⟩ := append_inj' h'
      exact I.edge A' (B' ++ [(v, n)]) p k q m (by rw [e1]; simp)
  · intro y hy
    by_cases e : y = v
    · subst e
      rw [hl]
      split
      · rename_i hc
        obtain ⟨w, hw, e1, r⟩ := I.lowrt y hy
        by_cases hm : low y ≤ vis.idxOf x
        · exact ⟨w, hw, by rw [e1]; omega, r⟩
        · exact ⟨x, hc.2, by omega, .one ⟨List.mem_of_getElem? hx, hc.1⟩⟩
      · exact I.lowrt y hy
    · rw [hlo y e]; exact I.lowrt y hy
  · rw [nm]; intro y hy hp; rw [np y hp]; exact I.fin y hy hp
  · rw [nm]; intro y hy hp
    obtain ⟨p, h1, h2, h3, h4⟩ := I.up y hy hp
    exact ⟨p, h1, h2, h3, by rw [np y hp]; exact Nat.le_trans (hle2 p) h4⟩
  · rw [nm]; intro y hy hp z hz; rw [np y hp]; exact I.proc y hy hp z hz
  · intro A' v' n' h
    obtain ⟨e1, e2⟩ := append_inj' h
    injection e2 with e3 e4; subst e3; subst e4; subst e1
    refine ⟨fun i y hi hy hdy => ?_, fun q hq i y hi hy hdy => ?_⟩
    · by_cases hin : i < n
      · obtain ⟨k1, k2⟩ := pA i y hin hy hdy
        exact ⟨k1, fun h => Nat.le_trans hle (k2 h)⟩
      · have : i = n := by omega
        subst this
        rw [hx] at hy; injection hy with hy; subst hy
        refine ⟨hv hdy, fun h => ?_⟩
        rw [hl, if_pos ⟨hdy, h⟩]; omega
    · obtain ⟨k1, k2⟩ := pB q hq i y hi hy hdy
      exact ⟨k1, fun h => by rw [hlo _ (noA q hq)]; exact k2 h⟩
/-- A node's group is an end. -/
theorem Inv.last (I : Inv deps done vis low stk (A ++ [(v, n)])) : ∀ x ∈ stk, x ∉ names (A ++ [(v, n)]) → vis.idxOf v < vis.idxOf x → low v ≤ low x := fun x hx hp hlt => by
  obtain ⟨p, h1, h2, h3, h4⟩ := I.up x hx hp
  have hvp : vis.idxOf v ≤ vis.idxOf p := h3 v (by simp [names]) hlt
  have : p = v := by
    rw [names_snoc] at h1
    rcases List.mem_append.1 h1 with h | h
    · have hps := I.psrt
      rw [names_snoc, List.pairwise_append] at hps
      have := hps.2.2 p h v (by simp)
      omega
    · simpa using h
  subst this; exact h4
theorem Inv.above (I : Inv deps done vis low stk (A ++ [(v, n)])) : ∀ p ∈ names A, vis.idxOf p < vis.idxOf v := fun p hp => by
  have hps := I.psrt
  rw [names_snoc, List.pairwise_append] at hps
  exact hps.2.2 p hp v (by simp)
/-- A node is left, and its group is still open. -/
theorem Inv.leave {u : α} {m : Nat} (I : Inv deps done vis low stk (A ++ [(u, m)] ++ [(v, n)])) (hn : n = (deps v).length) (hlt : low v ≠ vis.idxOf v) (low' : α → Nat) (hl : low' u = min (low u) (low v)) (hlo : ∀ y, y ≠ u → low' y = low y) :
    Inv deps done vis low' stk (A ++ [(u, m)]) := by
  have vp : v ∈ names (A ++ [(u, m)] ++ [(v, n)]) := by simp [names]
  have up' : u ∈ names (A ++ [(u, m)] ++ [(v, n)]) := by simp [names]
  have sv : v ∈ stk := I.psub v vp
  have su : u ∈ stk := I.psub u up'
  have abv := I.above
  have huv : vis.idxOf u < vis.idxOf v := abv u (by simp [names])
  have hne : u ≠ v := fun e => by rw [e] at huv; omega
  have lv : low v < vis.idxOf v := by have := I.lowle v sv; omega
  have hle2 : ∀ y, low' y ≤ low y := fun y => by
    by_cases e : y = u
    · subst e; rw [hl]; omega
    · rw [hlo y e]; exact Nat.le_refl _
  have nmem : ∀ y, y ∈ names (A ++ [(u, m)] ++ [(v, n)]) ↔ y ∈ names (A ++ [(u, m)]) ∨ y = v := fun y => by simp [names, or_assoc]
  have vnp : v ∉ names (A ++ [(u, m)]) := fun h => by have := abv v h; omega
  have psub' : ∀ p ∈ names (A ++ [(u, m)]), p ∈ stk := fun p hp => I.psub p ((nmem p).2 (.inl hp))
  obtain ⟨e1, e2⟩ := I.edge A [] u m v n (by simp)
  have suv : Succ deps done u v := ⟨List.mem_of_getElem? e2, I.ndone v (I.sub v sv)⟩
  obtain ⟨pA, pB⟩ := I.procA (A ++ [(u, m)]) v n rfl
  have hps := I.psrt
  have psrt' : (names (A ++ [(u, m)])).Pairwise fun a b => vis.idxOf a < vis.idxOf b := by
    rw [names_snoc, List.pairwise_append] at hps; exact hps.1
  refine ⟨I.nd, I.sub, I.srt, psub', psrt', I.ndone, ?_, fun y hy => Nat.le_trans (hle2 y) (I.lowle y hy), ?_, I.closed, ?_, ?_, ?_, ?_, fun p hp => I.top p ((nmem p).2 (.inl hp))⟩
  · intro A' B p k q k2 h
    exact I.edge A' (B ++ [(v, n)]) p k q k2 (by rw [h]; simp)
  · intro y hy
    by_cases e : y = u
    · subst e
      rw [hl]
      by_cases hm : low y ≤ low v
      · obtain ⟨w, hw, e1, r⟩ := I.lowrt y hy
        exact ⟨w, hw, by rw [e1]; omega, r⟩
      · obtain ⟨w, hw, e1, r⟩ := I.lowrt v sv
        exact ⟨w, hw, by rw [e1]; omega, .step suv r⟩
    · rw [hlo y e]; exact I.lowrt y hy
  · intro y hy hp
    have hyu : y ≠ u := fun e => hp (by rw [e]; simp [names])
    rw [hlo y hyu]
    by_cases e : y = v
    · subst e; exact lv
    · exact I.fin y hy fun h => (((nmem y).1 h).elim hp e)
  · intro y hy hp
    have hyu : y ≠ u := fun e => hp (by rw [e]; simp [names])
    have hmax : ∀ p' ∈ names (A ++ [(u, m)]), vis.idxOf p' ≤ vis.idxOf u := fun p' hp' => by
      rw [names_snoc] at hp'
      rcases List.mem_append.1 hp' with h | h
      · rw [names_snoc, List.pairwise_append] at psrt'
        exact Nat.le_of_lt (psrt'.2.2 p' h u (by simp))
      · simp at h; subst h; exact Nat.le_refl _
    rw [hlo y hyu]
    by_cases e : y = v
    · subst e
      exact ⟨u, by simp [names], huv, fun p' hp' _ => hmax p' hp', by rw [hl]; omega⟩
    · have hp2 : y ∉ names (A ++ [(u, m)] ++ [(v, n)]) := fun h => (((nmem y).1 h).elim hp e)
      obtain ⟨p, h1, h2, h3, h4⟩ := I.up y hy hp2
      rcases (nmem p).1 h1 with h | rfl
      · exact ⟨p, h, h2, fun p' hp' => h3 p' ((nmem p').2 (.inl hp')), Nat.le_trans (hle2 p) h4⟩
      · exact ⟨u, by simp [names], by omega, fun p' hp' _ => hmax p' hp', by rw [hl]; omega⟩
  · intro y hy hp z hz
    have hyu : y ≠ u := fun e => hp (by rw [e]; simp [names])
    rw [hlo y hyu]
    by_cases e : y = v
    · subst e
      obtain ⟨i, hi, hiz⟩ := List.getElem_of_mem hz.1
      exact pA i z (by rw [hn]; exact hi) (by rw [List.getElem?_eq_getElem hi, hiz]) hz.2
    · exact I.proc y hy (fun h => (((nmem y).1 h).elim hp e)) z hz
  · intro A' v' n' h
    obtain ⟨e3, e4⟩ := append_inj' h
    injection e4 with e5 e6; subst e5; subst e6; subst e3
    refine ⟨fun i y hi hy hdy => ?_, fun q hq i y hi hy hdy => ?_⟩
    · by_cases hi2 : i + 1 < m
      · obtain ⟨k1, k2⟩ := pB (u, m) (by simp) i y hi2 hy hdy
        exact ⟨k1, fun h => Nat.le_trans (hle2 u) (k2 h)⟩
      · have : i = m - 1 := by omega
        subst this
        rw [e2] at hy; injection hy with hy; subst hy
        refine ⟨I.sub _ sv, fun _ => ?_⟩
        rw [hl]; omega
    · obtain ⟨k1, k2⟩ := pB q (by simp [hq]) i y hi hy hdy
      exact ⟨k1, fun h => Nat.le_trans (hle2 _) (k2 h)⟩
/-- A node is left, and its group is whole. -/
structure IsGrp (deps : α → List α) (done : α → Bool) (g : List α) : Prop where
  ne : g ≠ []
  each : ∀ x ∈ g, ∀ y ∈ g, Rt deps done x y
  all : ∀ x ∈ g, ∀ y, Rt deps done x y → Rt deps done y x → y ∈ g
section
variable {S1 S2 : List α}
theorem split_lt (h : (S1 ++ v :: S2).Pairwise fun a b => vis.idxOf a < vis.idxOf b) : (∀ x ∈ S1, vis.idxOf x < vis.idxOf v) ∧ (∀ x ∈ S2, vis.idxOf v < vis.idxOf x) := by
  rw [List.pairwise_append] at h
  obtain ⟨_, h2, h3⟩ := h
  rw [List.pairwise_cons] at h2
  exact ⟨fun x hx => h3 x hx v (by simp), h2.1⟩
theorem Inv.close (I : Inv deps done vis low (S1 ++ v :: S2) (A ++ [(v, n)])) (hn : n = (deps v).length) (hlo : low v = vis.idxOf v) : Inv deps done vis low S1 A ∧ IsGrp deps done (v :: S2) := by
  obtain ⟨lt1, lt2⟩ := split_lt I.srt
  have sv : v ∈ S1 ++ v :: S2 := by simp
  have m1 : ∀ x ∈ S1 ++ v :: S2, vis.idxOf x < vis.idxOf v → x ∈ S1 := fun x hx hlt => by
    rcases List.mem_append.1 hx with h | h
    · exact h
    · rcases List.mem_cons.1 h with rfl | h
      · omega
      · have := lt2 x h; omega
  have m2 : ∀ x ∈ S1 ++ v :: S2, vis.idxOf v ≤ vis.idxOf x → x ∈ v :: S2 := fun x hx hle => by
    rcases List.mem_append.1 hx with h | h
    · have := lt1 x h; omega
    · exact h
  have sub1 : ∀ x ∈ S1, x ∈ S1 ++ v :: S2 := fun x hx => by simp [hx]
  have vn1 : v ∉ S1 := fun h => by have := lt1 v h; omega
  have abv := I.above
  have nmem : ∀ y, y ∈ names (A ++ [(v, n)]) ↔ y ∈ names A ∨ y = v := fun y => by simp [names]
  have notp : ∀ x ∈ S2, x ∉ names (A ++ [(v, n)]) := fun x hx h => by
    have := lt2 x hx
    rcases (nmem x).1 h with h | rfl
    · have := abv x h; omega
    · omega
  have notp1 : ∀ x ∈ S1, x ∉ names A → x ∉ names (A ++ [(v, n)]) := fun x hx hp h => by
    rcases (nmem x).1 h with h | rfl
    · exact hp h
    · exact vn1 hx
  obtain ⟨pA, pB⟩ := I.procA A v n rfl
  have glow : ∀ x ∈ v :: S2, vis.idxOf v ≤ low x := fun x hx => by
    rcases List.mem_cons.1 hx with rfl | h
    · omega
    · have := I.last x (by simp [h]) (notp x h) (lt2 x h); omega
  have gsucc : ∀ x ∈ v :: S2, ∀ y, Succ deps done x y → y ∈ vis ∧ (y ∈ S1 ++ v :: S2 → low x ≤ vis.idxOf y) := fun x hx y hy => by
    rcases List.mem_cons.1 hx with rfl | h
    · obtain ⟨i, hi, hiz⟩ := List.getElem_of_mem hy.1
      exact pA i y (by rw [hn]; exact hi) (by rw [List.getElem?_eq_getElem hi, hiz]) hy.2
    · exact I.proc x (by simp [h]) (notp x h) y hy
  have I' : Inv deps done vis low S1 A := by
    refine ⟨I.nd, fun x hx => I.sub x (sub1 x hx), ?_, ?_, ?_, I.ndone, ?_, fun x hx => I.lowle x (sub1 x hx), ?_, ?_, ?_, ?_, ?_, ?_, ?_⟩
    · have := I.srt; rw [List.pairwise_append] at this; exact this.1
    · exact fun p hp => m1 p (I.psub p ((nmem p).2 (.inl hp))) (abv p hp)
    · have := I.psrt; rw [names_snoc, List.pairwise_append] at this; exact this.1
    · intro A' B p k q m h; exact I.edge A' (B ++ [(v, n)]) p k q m (by rw [h]; simp)
    · intro x hx
      obtain ⟨w, hw, e, r⟩ := I.lowrt x (sub1 x hx)
      have h1 := I.lowle x (sub1 x hx)
      have h2 := lt1 x hx
      exact ⟨w, m1 w hw (by omega), e, r⟩
    · intro x hx hns y hy
      by_cases hs : x ∈ S1 ++ v :: S2
      · have hg : x ∈ v :: S2 := by
          rcases List.mem_append.1 hs with h | h
          · exact absurd h hns
          · exact h
        obtain ⟨k1, k2⟩ := gsucc x hg y hy
        refine ⟨k1, fun h => ?_⟩
        have h1 := k2 (sub1 y h)
        have h2 := glow x hg
        have h3 := lt1 y h
        omega
      · obtain ⟨k1, k2⟩ := I.closed x hx hs y hy
        exact ⟨k1, fun h => k2 (sub1 y h)⟩
    · exact fun x hx hp => I.fin x (sub1 x hx) (notp1 x hx hp)
    · intro x hx hp
      obtain ⟨p, h1, h2, h3, h4⟩ := I.up x (sub1 x hx) (notp1 x hx hp)
      have h5 := lt1 x hx
      rcases (nmem p).1 h1 with h | rfl
      · exact ⟨p, h, h2, fun p' hp' => h3 p' ((nmem p').2 (.inl hp')), h4⟩
      · omega
    · intro x hx hp y hy
      obtain ⟨k1, k2⟩ := I.proc x (sub1 x hx) (notp1 x hx hp) y hy
      exact ⟨k1, fun h => k2 (sub1 y h)⟩
    · intro A' u m h
      subst h
      obtain ⟨e1, e2⟩ := I.edge A' [] u m v n (by simp)
      refine ⟨fun i y hi hy hdy => ?_, fun q hq i y hi hy hdy => ?_⟩
      · by_cases hi2 : i + 1 < m
        · obtain ⟨k1, k2⟩ := pB (u, m) (by simp) i y hi2 hy hdy
          exact ⟨k1, fun h => k2 (sub1 y h)⟩
        · have : i = m - 1 := by omega
          subst this
          rw [e2] at hy; injection hy with hy; subst hy
          exact ⟨I.sub _ sv, fun h => absurd h vn1⟩
      · obtain ⟨k1, k2⟩ := pB q (by simp [hq]) i y hi hy hdy
        exact ⟨k1, fun h => k2 (sub1 y h)⟩
    · exact fun p hp x hx => I.top p ((nmem p).2 (.inl hp)) x (sub1 x hx)
  have tov : ∀ k x, vis.idxOf x ≤ k → x ∈ v :: S2 → Rt deps done x v := by
    intro k
    induction k with
    | zero =>
      intro x hk hx
      rcases List.mem_cons.1 hx with rfl | h
      · exact .refl _
      · have := lt2 x h; omega
    | succ k ih =>
      intro x hk hx
      rcases List.mem_cons.1 hx with rfl | h
      · exact .refl _
      · have hs : x ∈ S1 ++ v :: S2 := by simp [h]
        obtain ⟨w, hw, e, r⟩ := I.lowrt x hs
        have h1 := I.fin x hs (notp x h)
        have h2 := glow x hx
        exact r.trans (ih w (by omega) (m2 w hw (by omega)))
  have fromv : ∀ x ∈ v :: S2, Rt deps done v x := fun x hx => I.top v ((nmem v).2 (.inr rfl)) x (by simp at hx ⊢; exact .inr hx) (by
    rcases List.mem_cons.1 hx with rfl | h
    · exact Nat.le_refl _
    · exact Nat.le_of_lt (lt2 x h))
  refine ⟨I', by simp, fun x hx y hy => (tov _ x (Nat.le_refl _) hx).trans (fromv y hy), fun x hx y h1 h2 => ?_⟩
  have r1 : Rt deps done v y := (fromv x hx).trans h1
  have r2 : Rt deps done y v := h2.trans (tov _ x (Nat.le_refl _) hx)
  have hy : y ∈ vis ∧ y ∉ S1 := Rt.closed (S := fun z => z ∈ vis ∧ z ∉ S1) (fun a b ha hb => I'.closed a ha.1 ha.2 b hb) r1 ⟨I.sub v sv, vn1⟩
  by_cases hs : y ∈ S1 ++ v :: S2
  · rcases List.mem_append.1 hs with h | h
    · exact absurd h hy.2
    · exact h
  · have := Rt.closed (S := fun z => z ∈ vis ∧ z ∉ S1 ++ v :: S2) (fun a b ha hb => I.closed a ha.1 ha.2 b hb) r2 ⟨hy.1, hs⟩
    exact absurd sv this.2
end
theorem Inv.stk_nil (I : Inv deps done vis low stk []) : stk = [] := by
  cases stk with
  | nil => rfl
  | cons x l =>
    obtain ⟨p, hp, _⟩ := I.up x (by simp) (by simp [names])
    simp [names] at hp
/-- A node is begun with. -/
theorem Inv.root (I : Inv deps done vis low [] []) {x : α} (hd : done x = false) (hv : x ∉ vis) (low' : α → Nat) (hl : low' x = vis.length) : Inv deps done (vis ++ [x]) low' [x] [(x, 0)] := by
  have ixx : (vis ++ [x]).idxOf x = vis.length := idx_new hv
  have e1 : ∀ A B p n q m, [(x, 0)] ≠ A ++ (p, n) :: (q, m) :: B := fun A B p n q m h => by
    have := congrArg List.length h; simp at this; omega
  refine ⟨?_, by simp, by simp, by simp [names], by simp [names], ?_, fun A B p n q m h => absurd h (e1 A B p n q m), ?_, ?_, ?_, ?_, ?_, ?_, ?_, ?_⟩
  · rw [List.nodup_append]; exact ⟨I.nd, by simp, fun a ha b hb => by simp at hb; subst hb; exact fun e => hv (e ▸ ha)⟩
  · intro y hy; rcases List.mem_append.1 hy with h | h
    · exact I.ndone y h
    · simp at h; subst h; exact hd
  · intro y hy; simp at hy; subst hy; rw [hl, ixx]; exact Nat.le_refl _
  · intro y hy; simp at hy; subst hy; exact ⟨y, by simp, by rw [hl, ixx], .refl _⟩
  · intro y hy hns z hz
    have hyx : y ≠ x := fun e => hns (by simp [e])
    obtain ⟨h1, _⟩ := I.closed y (by simpa [hyx] using hy) (by simp) z hz
    exact ⟨by simp [h1], fun h => by simp at h; subst h; exact hv h1⟩
  · intro y hy hp; simp at hy; subst hy; exact absurd (by simp [names]) hp
  · intro y hy hp; simp at hy; subst hy; exact absurd (by simp [names]) hp
  · intro y hy hp; simp at hy; subst hy; exact absurd (by simp [names]) hp
  · intro A v n h
    have h' : [] ++ [(x, 0)] = A ++ [(v, n)] := h
    obtain ⟨e2, e3⟩ := append_inj' h'
    injection e3 with e4 e5; subst e4; subst e5; subst e2
    exact ⟨fun i y hi => by omega, fun q hq => by cases hq⟩
  · intro p hp y hy _
    simp [names] at hp; simp at hy; subst hp; subst hy; exact .refl _
/-- What was found. -/
structure Found (deps : α → List α) (done : α → Bool) (vis stk : List α) (grs : List (List α)) : Prop where
  grp : ∀ g ∈ grs, IsGrp deps done g
  nd : (grs.flatten).Nodup
  mem : ∀ x, x ∈ grs.flatten ↔ x ∈ vis ∧ x ∉ stk
  topo : ∀ (i : Nat) (g : List α), grs[i]? = some g → ∀ x ∈ g, ∀ y, Succ deps done x y → y ∈ g ∨ y ∈ (grs.take i).flatten
theorem Found.nil : Found deps done ([] : List α) [] [] := ⟨by simp, by simp, by simp, fun i g h => by simp at h⟩
theorem Found.push {grs : List (List α)} (F : Found deps done vis stk grs) {x : α} (hv : x ∉ vis) : Found deps done (vis ++ [x]) (stk ++ [x]) grs :=
  ⟨F.grp, F.nd, fun y => by
    rw [F.mem]
    constructor
    · rintro ⟨h1, h2⟩
      have : y ≠ x := fun e => hv (e ▸ h1)
      simp [h1, h2, this]
    · rintro ⟨h1, h2⟩
      have : y ≠ x := fun e => h2 (by simp [e])
      simp [this] at h1 h2
      exact ⟨h1, h2⟩, F.topo⟩
theorem Found.close {grs : List (List α)} {S1 S2 g : List α} {v : α} (F : Found deps done vis (S1 ++ v :: S2) grs) (I : ∀ x ∈ S1 ++ v :: S2, x ∈ vis) (nd : (S1 ++ v :: S2).Nodup) (G : IsGrp deps done (v :: S2)) (hp : g.Perm (v :: S2)) (hs : ∀ x ∈ v :: S2, ∀ y, Succ deps done x y → y ∈ vis ∧ y ∉ S1) : Found deps done vis S1 (grs ++ [g]) := by
  have hm : ∀ x, x ∈ g ↔ x ∈ v :: S2 := fun x => hp.mem_iff
  rw [List.nodup_append] at nd
  refine ⟨fun g' hg' => ?_, ?_, fun x => ?_, fun i g' hi x hx y hy => ?_⟩
  · rcases List.mem_append.1 hg' with h | h
    · exact F.grp g' h
    · simp at h; subst h
      refine ⟨fun e => by rw [e] at hp; have := hp.length_eq; simp at this, fun x hx y hy => G.each x ((hm x).1 hx) y ((hm y).1 hy), fun x hx y h1 h2 => (hm y).2 (G.all x ((hm x).1 hx) y h1 h2)⟩
  · rw [List.flatten_append, List.nodup_append]
    refine ⟨F.nd, by simpa using hp.nodup_iff.2 nd.2.1, fun a ha b hb e => ?_⟩
    subst e
    have h1 := (F.mem a).1 ha
    have h2 : a ∈ v :: S2 := (hm a).1 (by simpa using hb)
    exact h1.2 (by simp at h2 ⊢; exact .inr h2)
  · rw [List.flatten_append, List.mem_append, F.mem]
    simp only [List.flatten_cons, List.flatten_nil, List.append_nil, hm]
    constructor
    · rintro (⟨h1, h2⟩ | h)
      · exact ⟨h1, fun h => h2 (by simp [h])⟩
      · exact ⟨I x (by simp at h ⊢; exact .inr h), fun h2 => nd.2.2 x h2 x h rfl⟩
    · rintro ⟨h1, h2⟩
      by_cases hs : x ∈ v :: S2
      · exact .inr hs
      · exact .inl ⟨h1, fun h => (List.mem_append.1 h).elim h2 hs⟩
  · by_cases hlt : i < grs.length
    · rw [List.getElem?_append_left hlt] at hi
      rw [List.take_append_of_le_length (by omega)]
      exact F.topo i g' hi x hx y hy
    · have : i = grs.length := by
        have h1 := (List.getElem?_eq_some_iff.1 hi).1
        simp at h1; omega
      subst this
      rw [List.getElem?_append_right (Nat.le_refl _)] at hi
      simp at hi; subst hi
      obtain ⟨k1, k2⟩ := hs x ((hm x).1 hx) y hy
      by_cases hg : y ∈ v :: S2
      · exact .inl ((hm y).2 hg)
      · refine .inr ?_
        rw [List.take_left', F.mem]
        · exact ⟨k1, fun h => (List.mem_append.1 h).elim k2 hg⟩
        · rfl
theorem Inv.out (I' : Inv deps done vis low stk calls) : ∀ x ∈ vis, x ∉ stk → ∀ y, Succ deps done x y → y ∈ vis ∧ y ∉ stk := I'.closed
/-! The groups, one by one: each when all that it leads to is done, or in it. -/
/-- May a group be next? -/
def May (deps : α → List α) (now : List α) (g : List α) : Prop := ∀ x ∈ g, ∀ y ∈ deps x, y ∈ now ∨ y ∈ g
/-- What is left has one that may be next. -/
theorem some_may {grs left : List (List α)} {now : List α} (ht : ∀ (i : Nat) (g : List α), grs[i]? = some g → ∀ x ∈ g, ∀ y, Succ deps done x y → y ∈ g ∨ y ∈ (grs.take i).flatten)
    (hd : ∀ y, done y = true → y ∈ now) (hl : ∀ g ∈ left, g ∈ grs) (hr : ∀ g ∈ grs, g ∉ left → ∀ x ∈ g, x ∈ now) (hne : left ≠ []) : ∃ g ∈ left, May deps now g := by
  have key : ∀ k : Nat, (∃ i : Nat, i ≤ k ∧ ∃ g, grs[i]? = some g ∧ g ∈ left) → ∃ g ∈ left, May deps now g := by
    intro k
    induction k with
    | zero =>
      rintro ⟨i, hi, g, hg, hgl⟩
      obtain rfl : i = 0 := by omega
      refine ⟨g, hgl, fun x hx y hy => ?_⟩
      cases hdy : done y with
      | true => exact .inl (hd y hdy)
      | false =>
        rcases ht 0 g hg x hx y ⟨hy, hdy⟩ with h | h
        · exact .inr h
        · simp at h
    | succ k ih =>
      rintro ⟨i, hi, g, hg, hgl⟩
      by_cases hlow : ∃ j : Nat, j ≤ k ∧ ∃ g', grs[j]? = some g' ∧ g' ∈ left
      · exact ih hlow
      · refine ⟨g, hgl, fun x hx y hy => ?_⟩
        cases hdy : done y with
        | true => exact .inl (hd y hdy)
        | false =>
          rcases ht i g hg x hx y ⟨hy, hdy⟩ with h | h
          · exact .inr h
          · obtain ⟨g', hg', hyg⟩ := List.mem_flatten.1 h
            obtain ⟨j, hj, e⟩ := List.getElem_of_mem hg'
            have hj2 : j < i := by simp at hj; omega
            have hj3 : grs[j]? = some g' := by
              rw [← e, List.getElem_take, List.getElem?_eq_getElem]
            have hnl : g' ∉ left := fun h => hlow ⟨j, by omega, g', hj3, h⟩
            exact .inl (hr g' (List.mem_of_getElem? hj3) hnl y hyg)
  obtain ⟨g, hg⟩ := List.exists_mem_of_ne_nil left hne
  obtain ⟨i, hi, e⟩ := List.getElem_of_mem (hl g hg)
  exact key i ⟨i, Nat.le_refl _, g, by rw [← e, List.getElem?_eq_getElem], hg⟩
end Go.Proofs.Ytajgeofhlgoifaa.Tar

/- Graphs: where a search stands. -/
set_option linter.unusedVariables false
set_option linter.unusedSimpArgs false
set_option maxRecDepth 20000
namespace Go.Proofs.Ytajgeofhlgoifaa.G
open Go Go.Proofs.Ytajgeofhlgoifaa.V Go.Proofs.Ytajgeofhlgoifaa.I Go.RowKit
def blk : AV → List Nat
  | .arr id _ _ _ => [id]
  | _ => []
def StkAt (H : AHeap) (sv : AV) (st : List Iid) : Prop :=
  (st = [] ∧ sv = .list [] .full) ∨ ∃ id c cs, sv = .arr id 0 st.length c ∧ H[id]? = some (.cells cs) ∧ cs.length = c * 3 ∧ st.length ≤ c ∧ 0 < c ∧ cs.take (st.length * 3) = st.flatMap Iid.c
def GrsAt (H : AHeap) (gv : AV) (gs : List (List Iid)) : Prop :=
  (gs = [] ∧ gv = .list [] .full) ∨ ∃ id c cs, gv = .arr id 0 gs.length c ∧ H[id]? = some (.cells cs) ∧ cs.length = c ∧ gs.length ≤ c ∧ 0 < c ∧ cs.take gs.length = gs.map lv
/-- Where a search stands. -/
structure FS (H : AHeap) (l : List Nod) (dn : List Iid) (i1 i2 i3 fo : Nat) (sv gv : AV) (mid : Iid → Nat) (vis : List Iid) (low : Iid → Nat) (stk : List Iid) (grs : List (List Iid)) : Prop where
  nodes : H[i1]? = some (nodP l).o
  done : H[i2]? = some (ms dn).o
  obj : H[fo]? = some (.cells [.map i1, .map i2, .map i3, sv, gv])
  st : StkAt H sv stk
  gr : GrsAt H gv grs
  mks : ∃ p : MS, H[i3]? = some p.o ∧ WF p ∧ p.1.length = vis.length ∧ ∀ x, getE x p.1 = if x ∈ vis then some (.ptr (mid x) 0) else none
  mrk : ∀ x ∈ vis, H[mid x]? = some (.cells [iv (vis.idxOf x : Nat), iv (low x : Nat), .bool (decide (x ∈ stk))])
  nd : (fo :: (blk sv ++ blk gv ++ vis.map mid)).Nodup
  i31 : i3 ≠ i1
  i32 : i3 ≠ i2
def own (i3 fo : Nat) (sv gv : AV) (mid : Iid → Nat) (vis : List Iid) : List Nat := i3 :: fo :: (blk sv ++ blk gv ++ vis.map mid)
/-- What is not the search's stays. -/
structure Kp (H H' : AHeap) (O O' : List Nat) : Prop where
  len : H.length ≤ H'.length
  same : ∀ id, id < H.length → id ∉ O → H'[id]? = H[id]?
  sub : ∀ id, id ∈ O' → id < H.length → id ∈ O
theorem Kp.trans {H H' H'' : AHeap} {O O' O'' : List Nat} (a : Kp H H' O O') (b : Kp H' H'' O' O'') : Kp H H'' O O'' :=
  ⟨Nat.le_trans a.len b.len, fun id h1 h2 => (b.same id (Nat.lt_of_lt_of_le h1 a.len) fun h => h2 (a.sub id h h1)).trans (a.same id h1 h2), fun id h1 h2 => a.sub id (b.sub id h1 (Nat.lt_of_lt_of_le h2 a.len)) h2⟩
theorem Kp.refl (H : AHeap) (O : List Nat) : Kp H H O O := ⟨Nat.le_refl _, fun _ _ _ => rfl, fun _ h _ => h⟩
theorem Kp.app (H Y : AHeap) (O : List Nat) : Kp H (H ++ Y) O O := ⟨by simp, fun id h _ => List.getElem?_append_left h, fun _ h _ => h⟩
theorem get_lt {H : AHeap} {id : Nat} {o : AObj} (h : H[id]? = some o) : id < H.length := (List.getElem?_eq_some_iff.1 h).1
theorem StkAt.blk_lt {H : AHeap} {sv : AV} {st : List Iid} (h : StkAt H sv st) : ∀ id ∈ blk sv, id < H.length := fun id hid => by
  rcases h with ⟨_, rfl⟩ | ⟨i, c, cs, rfl, h1, _⟩
  · cases hid
  · simp [blk] at hid; subst hid; exact get_lt h1
theorem GrsAt.blk_lt {H : AHeap} {gv : AV} {gs : List (List Iid)} (h : GrsAt H gv gs) : ∀ id ∈ blk gv, id < H.length := fun id hid => by
  rcases h with ⟨_, rfl⟩ | ⟨i, c, cs, rfl, h1, _⟩
  · cases hid
  · simp [blk] at hid; subst hid; exact get_lt h1
theorem StkAt.keep {H H' : AHeap} {sv : AV} {st : List Iid} (h : StkAt H sv st) (k : ∀ id ∈ blk sv, H'[id]? = H[id]?) : StkAt H' sv st := by
  rcases h with h | ⟨i, c, cs, rfl, h1, h2⟩
  · exact .inl h
  · exact .inr ⟨i, c, cs, rfl, (k i (by simp [blk])).trans h1, h2⟩
theorem GrsAt.keep {H H' : AHeap} {gv : AV} {gs : List (List Iid)} (h : GrsAt H gv gs) (k : ∀ id ∈ blk gv, H'[id]? = H[id]?) : GrsAt H' gv gs := by
  rcases h with h | ⟨i, c, cs, rfl, h1, h2⟩
  · exact .inl h
  · exact .inr ⟨i, c, cs, rfl, (k i (by simp [blk])).trans h1, h2⟩
section
variable {H H' : AHeap} {l : List Nod} {dn : List Iid} {i1 i2 i3 fo : Nat} {sv gv : AV} {mid : Iid → Nat} {vis : List Iid} {low : Iid → Nat} {stk : List Iid} {grs : List (List Iid)}
theorem FS.own_lt (F : FS H l dn i1 i2 i3 fo sv gv mid vis low stk grs) : ∀ id ∈ own i3 fo sv gv mid vis, id < H.length := fun id hid => by
  obtain ⟨p, hp, _⟩ := F.mks
  simp only [own, List.mem_cons, List.mem_append, List.mem_map] at hid
  rcases hid with rfl | rfl | (h | h) | ⟨x, hx, rfl⟩
  · exact get_lt hp
  · exact get_lt F.obj
  · exact F.st.blk_lt _ h
  · exact F.gr.blk_lt _ h
  · exact get_lt (F.mrk x hx)
/-- A map is none of the blocks. -/
theorem FS.i3_not (F : FS H l dn i1 i2 i3 fo sv gv mid vis low stk grs) : i3 ∉ fo :: (blk sv ++ blk gv ++ vis.map mid) := fun hid => by
  obtain ⟨p, hp, _⟩ := F.mks
  simp only [List.mem_cons, List.mem_append, List.mem_map] at hid
  rcases hid with rfl | (h | h) | ⟨x, hx, rfl⟩
  · have := F.obj; rw [hp] at this; simp [MS.o, mapO] at this
  · rcases F.st with ⟨_, rfl⟩ | ⟨i, c, cs, rfl, h1, _⟩
    · cases h
    · simp [blk] at h; subst h; rw [hp] at h1; simp [MS.o, mapO] at h1
  · rcases F.gr with ⟨_, rfl⟩ | ⟨i, c, cs, rfl, h1, _⟩
    · cases h
    · simp [blk] at h; subst h; rw [hp] at h1; simp [MS.o, mapO] at h1
  · have := F.mrk x hx; rw [hp] at this; simp [MS.o, mapO] at this
theorem FS.i12_not (F : FS H l dn i1 i2 i3 fo sv gv mid vis low stk grs) : i1 ∉ own i3 fo sv gv mid vis ∧ i2 ∉ own i3 fo sv gv mid vis := by
  have key : ∀ j, j ≠ i3 → (∃ p : MS, H[j]? = some p.o) → j ∉ own i3 fo sv gv mid vis := fun j hj ⟨p, hp⟩ hid => by
    simp only [own, List.mem_cons, List.mem_append, List.mem_map] at hid
    rcases hid with rfl | rfl | (h | h) | ⟨x, hx, rfl⟩
    · exact hj rfl
    · have := F.obj; rw [hp] at this; simp [MS.o, mapO] at this
    · rcases F.st with ⟨_, rfl⟩ | ⟨i, c, cs, rfl, h1, _⟩
      · cases h
      · simp [blk] at h; subst h; rw [hp] at h1; simp [MS.o, mapO] at h1
    · rcases F.gr with ⟨_, rfl⟩ | ⟨i, c, cs, rfl, h1, _⟩
      · cases h
      · simp [blk] at h; subst h; rw [hp] at h1; simp [MS.o, mapO] at h1
    · have := F.mrk x hx; rw [hp] at this; simp [MS.o, mapO] at this
  exact ⟨key i1 (Ne.symm F.i31) ⟨_, F.nodes⟩, key i2 (Ne.symm F.i32) ⟨_, F.done⟩⟩
/-- The search stands where what is its own does. -/
theorem FS.keep (F : FS H l dn i1 i2 i3 fo sv gv mid vis low stk grs) (k : ∀ id, id = i1 ∨ id = i2 ∨ id ∈ own i3 fo sv gv mid vis → H'[id]? = H[id]?) : FS H' l dn i1 i2 i3 fo sv gv mid vis low stk grs := by
  obtain ⟨p, hp, h1, h2, h3⟩ := F.mks
  refine ⟨(k i1 (.inl rfl)).trans F.nodes, (k i2 (.inr (.inl rfl))).trans F.done, (k fo (by simp [own])).trans F.obj, F.st.keep fun id h => k id (by simp [own, h]), F.gr.keep fun id h => k id (by simp [own, h]), ⟨p, (k i3 (by simp [own])).trans hp, h1, h2, h3⟩, fun x hx => (k _ ?_).trans (F.mrk x hx), F.nd, F.i31, F.i32⟩
  refine .inr (.inr ?_)
  simp only [own, List.mem_cons, List.mem_append, List.mem_map]
  exact .inr (.inr (.inr ⟨x, hx, rfl⟩))
theorem FS.app (F : FS H l dn i1 i2 i3 fo sv gv mid vis low stk grs) (Y : AHeap) : FS (H ++ Y) l dn i1 i2 i3 fo sv gv mid vis low stk grs :=
  F.keep fun id hid => List.getElem?_append_left (by
    rcases hid with rfl | rfl | h
    · exact get_lt F.nodes
    · exact get_lt F.done
    · exact F.own_lt id h)
/-- A node is met. -/
theorem FS.meet (F : FS H l dn i1 i2 i3 fo sv gv mid vis low stk grs) {x : Iid} (hx : x ∉ vis) {p : MS} {m0 : Nat} {sv' : AV} (hp : H[i3]? = some p.o) (hl : H.length ≤ H'.length) (hm0 : H.length ≤ m0)
    (e1 : H'[i3]? = some (mapO Iid.av (putE x (.ptr m0 0) p.2 p.1) (putC x p.2 p.1))) (e2 : H'[m0]? = some (.cells [iv (vis.length : Nat), iv (vis.length : Nat), .bool true])) (e3 : H'[fo]? = some (.cells [.map i1, .map i2, .map i3, sv', gv]))
    (e4 : StkAt H' sv' (stk ++ [x])) (e5 : blk sv' = blk sv ∨ ∃ b, H.length ≤ b ∧ b ≠ m0 ∧ blk sv' = [b]) (e6 : ∀ id, id < H.length → id ≠ i3 → id ≠ fo → id ∉ blk sv → H'[id]? = H[id]?) :
    FS H' l dn i1 i2 i3 fo sv' gv (fun y => if y = x then m0 else mid y) (vis ++ [x]) (fun y => if y = x then vis.length else low y) (stk ++ [x]) grs ∧ Kp H H' (own i3 fo sv gv mid vis) (own i3 fo sv' gv (fun y => if y = x then m0 else mid y) (vis ++ [x])) := by
  obtain ⟨q, hq, w1, w2, w3⟩ := F.mks
  have hpq : p = q := by
    rw [hp] at hq
    injection hq with hq
    simp only [MS.o, mapO, AObj.map.injEq] at hq
    obtain ⟨a, b⟩ := hq
    refine Prod.ext ?_ b
    have hinj : Function.Injective fun q : Iid × AV × Nat => (Iid.av q.1, q.2.1, q.2.2) := fun a b e => by
      obtain ⟨⟨a1, a2, a3⟩, a4, a5⟩ := a
      obtain ⟨⟨b1, b2, b3⟩, b4, b5⟩ := b
      simp [Iid.av, Iid.c, iv] at e
      obtain ⟨⟨rfl, rfl, rfl⟩, rfl, rfl⟩ := e
      rfl
    exact (List.map_inj_right (fun _ _ h => hinj h)).1 a
  subst hpq
  have hold : ∀ y, y ∈ vis → y ≠ x := fun y hy e => hx (e ▸ hy)
  have hmid : ∀ y ∈ vis, (if y = x then m0 else mid y) = mid y := fun y hy => if_neg (hold y hy)
  have hmm : (vis ++ [x]).map (fun y => if y = x then m0 else mid y) = vis.map mid ++ [m0] := by
    rw [List.map_append]
    congr 1
    · exact List.map_congr_left hmid
    · simp
  have hnd := F.nd
  have hown := F.own_lt
  obtain ⟨n1, n2⟩ := F.i12_not
  have hne : ∀ id, id ∈ fo :: (blk sv ++ blk gv ++ vis.map mid) → id ≠ i3 := fun id h e => F.i3_not (e ▸ h)
  simp only [own, List.mem_cons, List.mem_append, not_or] at n1 n2
  rw [List.nodup_cons, List.nodup_append, List.nodup_append] at hnd
  obtain ⟨d1, ⟨d2, d3, d4⟩, d5, d6⟩ := hnd
  simp only [List.mem_append, not_or] at d1
  have lt : ∀ id, id ∈ own i3 fo sv gv mid vis → id < m0 := fun id h => Nat.lt_of_lt_of_le (hown id h) hm0
  refine ⟨⟨?_, ?_, e3, e4, ?_, ⟨(putE x (.ptr m0 0) p.2 p.1, putC x p.2 p.1), e1, ?_⟩, fun y hy => ?_, ?_, F.i31, F.i32⟩, hl, fun id h1 h2 => ?_, fun id h1 h2 => ?_⟩
  · rw [e6 i1 (get_lt F.nodes) n1.1 n1.2.1 n1.2.2.1.1]; exact F.nodes
  · rw [e6 i2 (get_lt F.done) n2.1 n2.2.1 n2.2.2.1.1]; exact F.done
  · refine F.gr.keep fun id h => e6 id (F.gr.blk_lt id h) (hne id (by simp [h])) (fun e => d1.1.2 (e ▸ h)) fun h2 => d4 id h2 id h rfl
  · obtain ⟨k1, k2, k3⟩ := wf_put w1 x (.ptr m0 0)
    have hxk : x ∉ keys p := fun h => by
      have h1 := w3 x
      rw [if_neg hx] at h1
      have h2 : (keyAt x p.1).isSome = false := by rw [← getE_isSome, h1]; rfl
      cases h3 : keyAt x p.1 with
      | some j => rw [h3] at h2; cases h2
      | none =>
        obtain ⟨e, he, h4⟩ := List.mem_map.1 h
        exact keyAt_none.1 h3 e he h4
    refine ⟨k1, ?_, fun y => ?_⟩
    · show (putE x _ _ _).length = _
      rw [k3, if_neg hxk, w2]; simp
    · show getE y (putE x _ _ _) = _
      rw [getE_put, w3]
      by_cases e : x = y
      · subst e; simp
      · have : y ≠ x := fun h => e h.symm
        simp [e, this]
  · rcases List.mem_append.1 hy with hy | hy
    · have hyx := hold y hy
      have hin : mid y ∈ vis.map mid := List.mem_map.2 ⟨y, hy, rfl⟩
      simp only [hyx, if_false]
      rw [e6 (mid y) (get_lt (F.mrk y hy)) (hne _ (by simp only [List.mem_cons, List.mem_append]; exact .inr (.inr hin))) (fun e => d1.2 (e ▸ hin)) (fun h => d6 _ (List.mem_append.2 (.inl h)) _ hin rfl), F.mrk y hy]
      rw [List.idxOf_append, if_pos hy]
      simp [hyx]
    · simp at hy; subst hy
      simp only [if_true]
      rw [e2, List.idxOf_append, if_neg hx]
      simp
  · rw [hmm]
    have hb : ∀ id ∈ blk sv', id ∉ fo :: (blk gv ++ vis.map mid) ∧ id ≠ m0 := fun id hid => by
      rcases e5 with e | ⟨b, hb1, hb2, e⟩
      · rw [e] at hid
        refine ⟨fun h => ?_, fun h => ?_⟩
        · simp only [List.mem_cons, List.mem_append] at h
          rcases h with rfl | h | h
          · exact d1.1.1 hid
          · exact d4 id hid id h rfl
          · exact d6 id (List.mem_append.2 (.inl hid)) id h rfl
        · have := lt id (by simp [own, hid]); omega
      · rw [e] at hid
        simp at hid
        subst hid
        refine ⟨fun h => ?_, hb2⟩
        have := hown id (by simp only [own, List.mem_cons, List.mem_append] at h ⊢; rcases h with h | h | h <;> simp [h])
        omega
    have hbn : (blk sv').Nodup := by cases sv' <;> simp [blk]
    have hfo : fo < m0 := lt fo (by simp [own])
    rw [List.nodup_cons, List.nodup_append, List.nodup_append, List.nodup_append]
    refine ⟨fun h => ?_, ⟨hbn, d3, fun a ha b hb2 e => (hb a ha).1 (by subst e; simp [hb2])⟩, ⟨d5, by simp, fun a ha b hb2 e => ?_⟩, fun a ha b hb2 e => ?_⟩
    · simp only [List.mem_append, List.mem_singleton] at h
      rcases h with (h | h) | h | h
      · exact (hb fo h).1 (by simp)
      · exact d1.1.2 h
      · exact d1.2 h
      · omega
    · simp at hb2; subst hb2; subst e
      have := lt a (by simp only [own, List.mem_cons, List.mem_append]; exact .inr (.inr (.inr ha)))
      omega
    · subst e
      simp only [List.mem_append, List.mem_singleton] at ha hb2
      rcases hb2 with hb2 | hb2
      · rcases ha with ha | ha
        · exact (hb a ha).1 (by simp only [List.mem_cons, List.mem_append]; exact .inr (.inr hb2))
        · exact d6 a (List.mem_append.2 (.inr ha)) a hb2 rfl
      · subst hb2
        rcases ha with ha | ha
        · exact (hb a ha).2 rfl
        · have := lt a (by simp [own, ha]); omega
  · simp only [own, List.mem_cons, List.mem_append, not_or] at h2
    exact e6 id h1 h2.1 h2.2.1 h2.2.2.1.1
  · have hlt2 : id < m0 := Nat.lt_of_lt_of_le h2 hm0
    simp only [own, List.mem_cons, List.mem_append, hmm, List.mem_singleton] at h1 ⊢
    rcases h1 with h | h | (h | h) | h | h
    · exact .inl h
    · exact .inr (.inl h)
    · rcases e5 with e | ⟨b, hb1, hb2, e⟩
      · rw [e] at h; exact .inr (.inr (.inl (.inl h)))
      · rw [e] at h; simp at h; omega
    · exact .inr (.inr (.inl (.inr h)))
    · exact .inr (.inr (.inr h))
    · simp at h; omega
end
end Go.Proofs.Ytajgeofhlgoifaa.G

/- Graphs: a node is met. -/
set_option linter.unusedVariables false
set_option linter.unusedSimpArgs false
set_option maxRecDepth 20000
namespace Go.Proofs.Ytajgeofhlgoifaa.G
open Go Go.Proofs.Ytajgeofhlgoifaa.V Go.Proofs.Ytajgeofhlgoifaa.I Go.RowKit
theorem over_take3 {cs : List AV} {n : Nat} {a b c : AV} (hn : n * 3 + 3 ≤ cs.length) : (V.over cs (n * 3) [a, b, c]).take ((n + 1) * 3) = cs.take (n * 3) ++ [a, b, c] := by
  unfold V.over
  rw [List.take_append_of_le_length (by simp; omega), List.take_of_length_le (by simp; omega)]
theorem meet_ok {H : AHeap} {l : List Nod} {dn : List Iid} {i1 i2 i3 fo : Nat} {sv gv : AV} {mid : Iid → Nat} {vis : List Iid} {low : Iid → Nat} {stk : List Iid} {grs : List (List Iid)} (F : FS H l dn i1 i2 i3 fo sv gv mid vis low stk grs) (x : Iid) (hx : x ∉ vis) (hl : stk.length ≤ 100000) :
    ACalls Try.prog 52 [.ptr fo 0, Iid.av x] H fun r H' => r = .agg [iv x.e, iv x.n, iv x.o, iv 0] ∧ ∃ sv' mid', FS H' l dn i1 i2 i3 fo sv' gv mid' (vis ++ [x]) (fun y => if y = x then vis.length else low y) (stk ++ [x]) grs ∧ Kp H H' (own i3 fo sv gv mid vis) (own i3 fo sv' gv mid' (vis ++ [x])) := by
  obtain ⟨p, hp, hwf, hpl, hpg⟩ := F.mks
  have hfo := F.obj
  have hfol := get_lt hfo
  have hpo := get_lt hp
  have hfo2 : ∀ Y : AHeap, (H ++ Y)[fo]? = some (.cells [.map i1, .map i2, .map i3, sv, gv]) := fun Y => by rw [List.getElem?_append_left hfol]; exact hfo
  have hp2 : ∀ Y : AHeap, (H ++ Y)[i3]? = some p.o := fun Y => by rw [List.getElem?_append_left hpo]; exact hp
  have hH : ∀ Y : AHeap, HeldA (H ++ Y) [(fo, 2, .map i3)] := fun Y q hq => by
    have : q = (fo, 2, .map i3) := by simpa using hq
    subst this
    exact ⟨rfl, _, hfo2 _, rfl⟩
  have hu := Try.underlying60
  have hfi : fo ≠ i3 := fun e => F.i3_not (by simp [e])
  unfold Iid.av Iid.c
  refine acalls_of_awp Try.func52 rfl (by simp only [List.length_cons, List.length_nil]; decide) ?_
  simp only [params_cons, params_nil]
  refine awp_seq ?_
  refine zg ?_
  refine goes_done ?_
  (try simp only [vq, if_true, reduceIte, Nat.reduceEqDiff, reduceCtorEq])
  refine awp_hard (id := H.length) (by simp -implicitDefEqProofs; rfl) ?_
  simp -implicitDefEqProofs only [Slots.melt, AV.melt, Nat.add_left_cancel_iff, Nat.add_eq_left, Nat.left_eq_add, Nat.reduceEqDiff, reduceIte, Nat.succ_ne_self, Nat.one_ne_zero, Nat.zero_ne_one, List.set_append_right, List.set_append_left, Nat.sub_self, Nat.le_refl, Nat.add_sub_cancel_left, Nat.le_add_right, List.set_cons_zero, List.set_cons_succ]
  refine awp_seq ?_
  refine awp_drawH [(fo, 2, .map i3)] (.q 0 (.q 1 (.q 2 (.q 3 (.q 4 (.q 5 (.q 6 (.q 7 (.q 8 (.q 10 (.q 11 (.q 12 (.q 13 (.a 9 (.a 14 (.q 15 (.a 16 (.a 17 (.done))))))))))))))))))) (hH _) (by kernel_rfl) (by kernel_rfl) ?_
  refine treeH_qs (l := [0, 1, 2]) (tree_start (goesT_eq (by simp -implicitDefEqProofs (disch := (first | omega | (simp; done) | fail)) [if_pos, if_neg, wrap_i64]; rfl) ?_))
  refine goesT_done ⟨rfl, ?_⟩
  refine treeH_ld1 (.map i3) rfl rfl (by rfl) rfl (by simp) rfl ?_
  refine treeH_qs (l := [4, 5, 6, 7]) (tree_start (goesT_eq (by simp -implicitDefEqProofs (disch := (first | omega | (simp; done) | fail)) [if_pos, if_neg, wrap_i64]; rfl) ?_))
  refine goesT_done ⟨rfl, ?_⟩
  refine treeH_ld1 (.map i3) rfl rfl (by rfl) rfl (by simp) rfl ?_
  refine treeH_qs (l := [10, 11, 12]) (tree_start (goesT_eq (by simp -implicitDefEqProofs (disch := (first | omega | (simp; done) | fail)) [if_pos, if_neg, wrap_i64]; rfl) ?_))
  refine goesT_done ⟨rfl, ?_⟩
  refine treeH_ld1 (.map i3) rfl rfl (by rfl) rfl (by simp) rfl ?_
  refine treeH_a (aats_lenm (id := i3) (es := p.1.map fun q => (Iid.av q.1, q.2.1, q.2.2)) (clock := p.2) rfl rfl (by rfl) hu rfl (hp2 _) ⟨hH _, ?_⟩)
  refine treeH_a (aats_lenm (id := i3) (es := p.1.map fun q => (Iid.av q.1, q.2.1, q.2.2)) (clock := p.2) rfl rfl (by rfl) hu rfl (hp2 _) ⟨hH _, ?_⟩)
  rw [List.length_map, hpl]
  refine treeH_qs (l := [15]) (tree_start (goesT_eq (by simp -implicitDefEqProofs (disch := (first | omega | (simp; done) | fail)) [if_pos, if_neg, wrap_i64]; rfl) ?_))
  refine goesT_done ⟨rfl, ?_⟩
  refine treeH_auto (tree_start (goesT_eq (by simp -implicitDefEqProofs (disch := (first | omega | (simp; done) | fail)) [if_pos, if_neg]; rfl) ?_))
  refine goesT_done ⟨by simpa using hH _, ?_⟩
  refine treeH_a (aats_put (id := i3) (es := p.1) (clock := p.2) (k := x) (v := .ptr (H.length + 2) 0) iid_key rfl rfl (by rfl) rfl hu rfl rfl rfl (hp2 _) ⟨fun q hq => ?_, ?_⟩)
  · have : q = (fo, 2, .map i3) := by simpa using hq
    subst this
    exact ⟨rfl, _, by rw [List.getElem?_set_ne (Ne.symm hfi)]; exact hfo2 _, rfl⟩
  refine treeH_done ?_
  rw [List.set_append_left _ _ hpo]
  have hs1 : (H.set i3 (mapO Iid.av (putE x (.ptr (H.length + 2) 0) p.2 p.1) (putC x p.2 p.1)))[i3]? = some (mapO Iid.av (putE x (.ptr (H.length + 2) 0) p.2 p.1) (putC x p.2 p.1)) := List.getElem?_set_self hpo
  have hs2 : ∀ id, id ≠ i3 → (H.set i3 (mapO Iid.av (putE x (.ptr (H.length + 2) 0) p.2 p.1) (putC x p.2 p.1)))[id]? = H[id]? := fun id h => List.getElem?_set_ne (Ne.symm h)
  have hs3 : (H.set i3 (mapO Iid.av (putE x (.ptr (H.length + 2) 0) p.2 p.1) (putC x p.2 p.1))).length = H.length := List.length_set
  generalize H.set i3 (mapO Iid.av (putE x (.ptr (H.length + 2) 0) p.2 p.1) (putC x p.2 p.1)) = H1 at *
  simp only [vq, if_true, reduceIte, Nat.reduceEqDiff, reduceCtorEq]
  have hfo3 : ∀ Y : AHeap, (H1 ++ Y)[fo]? = some (.cells [.map i1, .map i2, .map i3, sv, gv]) := fun Y => by rw [List.getElem?_append_left (by omega), hs2 _ hfi]; exact hfo
  have hne : ∀ id, id ∈ fo :: (blk sv ++ blk gv ++ vis.map mid) → id ≠ i3 := fun id h e => F.i3_not (e ▸ h)
  have hnd := F.nd
  clear hfo2 hp2 hH
  obtain ⟨b1, b2⟩ := nbg (n := stk.length + 1) (by omega)
  refine awp_seq ?_
  refine awp_drawS (graft (.a 7 (.q 8 (.q 9 (.a 10 .done)))) (.q 0 (.q 1 (.q 2 (.q 3 (.q 5 (.two 4 6 (.a 6 .done) (.a 4 .done)))))))) (by kernel_rfl) (by kernel_rfl) (tree_graft (tree_start (goesT_eq (by simp -implicitDefEqProofs (disch := (first | omega | (simp; done) | fail)) [if_pos, if_neg, hfo3]; rfl) ?_)))
  rcases F.st with ⟨rfl, rfl⟩ | ⟨sb, c, cs, rfl, g1, g2, g3, g4, g5⟩
  · refine goesT_two (goesT_eq (by simp -implicitDefEqProofs (disch := (first | omega | (simp; done) | fail)) [if_pos, if_neg, wrap_i64, tmod_pos, tdiv_pos, Int.toNat_add, hfo3]; rfl) ?_) (goesT_eq (by simp -implicitDefEqProofs (disch := (first | omega | (simp; done) | fail)) [if_pos, if_neg, wrap_i64, tmod_pos, tdiv_pos, Int.toNat_add, hfo3]; rfl) ?_)
    · refine goesT_done ?_
      refine aats_append (k := 3) (by_ := 24) (m := 0) (c := 0) (cs := []) (zc := [iv 0, iv 0, iv 0]) (z := .agg [iv x.e, iv x.n, iv x.o]) rfl rfl (by rfl) (by simp; rfl) (by simp) (by simp) (by simp [iv]) rfl (by decide) rfl (by simp) .nil (by simp [iv]) b1 b2 ?_
      refine ⟨fun hroom => absurd hroom (by omega), fun hfull c' u hc' hu => ?_⟩
      simp only [List.length_append, List.length_cons, List.length_nil, hs3, Nat.zero_add, Nat.reduceAdd, AV.cells, List.append_assoc, List.cons_append, List.nil_append]
      refine tree_s (tree_start (goesT_eq (by simp -implicitDefEqProofs (disch := (first | omega | (simp; done) | fail)) [if_pos, if_neg, hfo3]; rfl) ?_))
      refine goesT_done ?_
      (try simp only [vq, if_true, reduceIte, Nat.reduceEqDiff, reduceCtorEq])
      have k1 : (H1.set fo (.cells [.map i1, .map i2, .map i3, (.arr (H.length + 3) 0 1 c'), gv]))[fo]? = some (.cells [.map i1, .map i2, .map i3, (.arr (H.length + 3) 0 1 c'), gv]) := List.getElem?_set_self (by omega)
      have k2 : ∀ id, id ≠ fo → (H1.set fo (.cells [.map i1, .map i2, .map i3, (.arr (H.length + 3) 0 1 c'), gv]))[id]? = H1[id]? := fun id h => List.getElem?_set_ne (Ne.symm h)
      have k3 : (H1.set fo (.cells [.map i1, .map i2, .map i3, (.arr (H.length + 3) 0 1 c'), gv])).length = H.length := by rw [List.length_set, hs3]
      generalize H1.set fo (.cells [.map i1, .map i2, .map i3, (.arr (H.length + 3) 0 1 c'), gv]) = H3 at *
      rw [← k3]
      repeat (first | ((first | refine zd ?_ | refine zx ?_ | refine zk ?_ | refine zl ?_ | refine zr ?_); refine zq ?_) | refine zs ?_ | refine zg ?_ | refine zb ?_ | refine zo ?_ | refine zt ?_ | refine zf ?_)
      first | refine body_all (.inr rfl) (by simp -implicitDefEqProofs; rfl) (by simp -implicitDefEqProofs; rfl) (by first | (simp; done) | (simp; omega) | omega) ?_ | refine body_all (.inl rfl) (by simp -implicitDefEqProofs; rfl) (by simp -implicitDefEqProofs; rfl) (by first | (simp; done) | (simp; omega) | omega) ?_
      refine ⟨rfl, (.arr (H.length + 3) 0 1 c'), fun y => if y = x then H.length + 2 else mid y, ?_⟩
      have k4 : ∀ id, id < H.length → ∀ Y : AHeap, (H3 ++ Y)[id]? = H3[id]? := fun id h Y => List.getElem?_append_left (by omega)
      refine F.meet (p := p) (m0 := H.length + 2) hx hp (by simp [k3]) (by omega) ?_ ?_ ?_ ?_ (.inr ⟨H.length + 3, by omega, by omega, rfl⟩) ?_
      · rw [k4 _ hpo, k2 _ (Ne.symm hfi)]; exact hs1
      · rw [List.getElem?_append_right (by omega)]; simp [k3]
      · rw [k4 _ hfol]; exact k1
      · refine .inr ⟨H.length + 3, c', iv x.e :: iv x.n :: iv x.o :: u, by simp, by rw [List.getElem?_append_right (by omega)]; simp [k3], by simp [hu]; omega, by simpa using hc', by omega, ?_⟩
        simp [Iid.c]
      · intro id j1 j2 j3 j4
        rw [k4 id j1, k2 id j3, hs2 id j2]
    · refine goesT_done ?_
      refine aats_append (k := 3) (by_ := 24) (m := 0) (c := 0) (cs := []) (zc := [iv 0, iv 0, iv 0]) (z := .agg [iv x.e, iv x.n, iv x.o]) rfl rfl (by rfl) (by simp; rfl) (by simp) (by simp) (by simp [iv]) rfl (by decide) rfl (by simp) .nil (by simp [iv]) b1 b2 ?_
      refine ⟨fun hroom => absurd hroom (by omega), fun hfull c' u hc' hu => ?_⟩
      simp only [List.length_append, List.length_cons, List.length_nil, hs3, Nat.zero_add, Nat.reduceAdd, AV.cells, List.append_assoc, List.cons_append, List.nil_append]
      refine tree_s (tree_start (goesT_eq (by simp -implicitDefEqProofs (disch := (first | omega | (simp; done) | fail)) [if_pos, if_neg, hfo3]; rfl) ?_))
      refine goesT_done ?_
      (try simp only [vq, if_true, reduceIte, Nat.reduceEqDiff, reduceCtorEq])
      have k1 : (H1.set fo (.cells [.map i1, .map i2, .map i3, (.arr (H.length + 3) 0 1 c'), gv]))[fo]? = some (.cells [.map i1, .map i2, .map i3, (.arr (H.length + 3) 0 1 c'), gv]) := List.getElem?_set_self (by omega)
      have k2 : ∀ id, id ≠ fo → (H1.set fo (.cells [.map i1, .map i2, .map i3, (.arr (H.length + 3) 0 1 c'), gv]))[id]? = H1[id]? := fun id h => List.getElem?_set_ne (Ne.symm h)
      have k3 : (H1.set fo (.cells [.map i1, .map i2, .map i3, (.arr (H.length + 3) 0 1 c'), gv])).length = H.length := by rw [List.length_set, hs3]
      generalize H1.set fo (.cells [.map i1, .map i2, .map i3, (.arr (H.length + 3) 0 1 c'), gv]) = H3 at *
      rw [← k3]
      repeat (first | ((first | refine zd ?_ | refine zx ?_ | refine zk ?_ | refine zl ?_ | refine zr ?_); refine zq ?_) | refine zs ?_ | refine zg ?_ | refine zb ?_ | refine zo ?_ | refine zt ?_ | refine zf ?_)
      first | refine body_all (.inr rfl) (by simp -implicitDefEqProofs; rfl) (by simp -implicitDefEqProofs; rfl) (by first | (simp; done) | (simp; omega) | omega) ?_ | refine body_all (.inl rfl) (by simp -implicitDefEqProofs; rfl) (by simp -implicitDefEqProofs; rfl) (by first | (simp; done) | (simp; omega) | omega) ?_
      refine ⟨rfl, (.arr (H.length + 3) 0 1 c'), fun y => if y = x then H.length + 2 else mid y, ?_⟩
      have k4 : ∀ id, id < H.length → ∀ Y : AHeap, (H3 ++ Y)[id]? = H3[id]? := fun id h Y => List.getElem?_append_left (by omega)
      refine F.meet (p := p) (m0 := H.length + 2) hx hp (by simp [k3]) (by omega) ?_ ?_ ?_ ?_ (.inr ⟨H.length + 3, by omega, by omega, rfl⟩) ?_
      · rw [k4 _ hpo, k2 _ (Ne.symm hfi)]; exact hs1
      · rw [List.getElem?_append_right (by omega)]; simp [k3]
      · rw [k4 _ hfol]; exact k1
      · refine .inr ⟨H.length + 3, c', iv x.e :: iv x.n :: iv x.o :: u, by simp, by rw [List.getElem?_append_right (by omega)]; simp [k3], by simp [hu]; omega, by simpa using hc', by omega, ?_⟩
        simp [Iid.c]
      · intro id j1 j2 j3 j4
        rw [k4 id j1, k2 id j3, hs2 id j2]
  · have hsl := get_lt g1
    have hsb : sb ≠ i3 := hne sb (by simp [blk])
    have hsf : sb ≠ fo := fun e => by simp [blk, e] at hnd
    have g1' : ∀ Y : AHeap, (H1 ++ Y)[sb]? = some (.cells cs) := fun Y => by rw [List.getElem?_append_left (by omega), hs2 _ hsb]; exact g1
    refine goesT_two (goesT_eq (by simp -implicitDefEqProofs (disch := (first | omega | (simp; done) | fail)) [if_pos, if_neg, wrap_i64, tmod_pos, tdiv_pos, Int.toNat_add, hfo3]; rfl) ?_) (goesT_eq (by simp -implicitDefEqProofs (disch := (first | omega | (simp; done) | fail)) [if_pos, if_neg, wrap_i64, tmod_pos, tdiv_pos, Int.toNat_add, hfo3]; rfl) ?_)
    · refine goesT_done ?_
      refine aats_append (k := 3) (by_ := 24) (m := stk.length) (c := c) (cs := cs) (zc := [iv 0, iv 0, iv 0]) (z := .agg [iv x.e, iv x.n, iv x.o]) rfl rfl (by rfl) (by simp; rfl) (by simp) (by simp) (by simp [iv]) rfl (by decide) rfl (by simp) (.arr _ _ _ _ (g1' _) g2 g3 g4) (by simp [iv]) b1 b2 ?_
      refine ⟨fun hroom id' hid => ?_, fun hfull c' u hc' hu => ?_⟩
      · injection hid with hid
        subst hid
        rw [List.set_append_left _ _ (by omega)]
        have h2fo : ∀ Y : AHeap, (H1.set sb (.cells (V.over cs (stk.length * 3) [iv x.e, iv x.n, iv x.o])) ++ Y)[fo]? = some (.cells [.map i1, .map i2, .map i3, .arr sb 0 stk.length c, gv]) := fun Y => by
          rw [List.getElem?_append_left (by simp; omega), List.getElem?_set_ne hsf, hs2 _ hfi]; exact hfo
        have h2sb : (H1.set sb (.cells (V.over cs (stk.length * 3) [iv x.e, iv x.n, iv x.o])))[sb]? = some (.cells (V.over cs (stk.length * 3) [iv x.e, iv x.n, iv x.o])) := List.getElem?_set_self (by omega)
        have h2o : ∀ id, id ≠ sb → (H1.set sb (.cells (V.over cs (stk.length * 3) [iv x.e, iv x.n, iv x.o])))[id]? = H1[id]? := fun id h => List.getElem?_set_ne (Ne.symm h)
        have h2l : (H1.set sb (.cells (V.over cs (stk.length * 3) [iv x.e, iv x.n, iv x.o]))).length = H.length := by rw [List.length_set, hs3]
        simp only [AV.cells]
        generalize H1.set sb (.cells (V.over cs (stk.length * 3) [iv x.e, iv x.n, iv x.o])) = H2 at *
        refine tree_s (tree_start (goesT_eq (by simp -implicitDefEqProofs (disch := (first | omega | (simp; done) | fail)) [if_pos, if_neg, h2fo]; rfl) ?_))
        refine goesT_done ?_
        (try simp only [vq, if_true, reduceIte, Nat.reduceEqDiff, reduceCtorEq])
        have k1 : (H2.set fo (.cells [.map i1, .map i2, .map i3, (.arr sb 0 (stk.length + 1) c), gv]))[fo]? = some (.cells [.map i1, .map i2, .map i3, (.arr sb 0 (stk.length + 1) c), gv]) := List.getElem?_set_self (by omega)
        have k2 : ∀ id, id ≠ fo → (H2.set fo (.cells [.map i1, .map i2, .map i3, (.arr sb 0 (stk.length + 1) c), gv]))[id]? = H2[id]? := fun id h => List.getElem?_set_ne (Ne.symm h)
        have k3 : (H2.set fo (.cells [.map i1, .map i2, .map i3, (.arr sb 0 (stk.length + 1) c), gv])).length = H.length := by rw [List.length_set, h2l]
        generalize H2.set fo (.cells [.map i1, .map i2, .map i3, (.arr sb 0 (stk.length + 1) c), gv]) = H3 at *
        rw [← k3]
        repeat (first | ((first | refine zd ?_ | refine zx ?_ | refine zk ?_ | refine zl ?_ | refine zr ?_); refine zq ?_) | refine zs ?_ | refine zg ?_ | refine zb ?_ | refine zo ?_ | refine zt ?_ | refine zf ?_)
        first | refine body_all (.inr rfl) (by simp -implicitDefEqProofs; rfl) (by simp -implicitDefEqProofs; rfl) (by first | (simp; done) | (simp; omega) | omega) ?_ | refine body_all (.inl rfl) (by simp -implicitDefEqProofs; rfl) (by simp -implicitDefEqProofs; rfl) (by first | (simp; done) | (simp; omega) | omega) ?_
        refine ⟨rfl, (.arr sb 0 (stk.length + 1) c), fun y => if y = x then H.length + 2 else mid y, ?_⟩
        have k4 : ∀ id, id < H.length → ∀ Y : AHeap, (H3 ++ Y)[id]? = H3[id]? := fun id h Y => List.getElem?_append_left (by omega)
        refine F.meet (p := p) (m0 := H.length + 2) hx hp (by simp [k3]) (by omega) ?_ ?_ ?_ ?_ (.inl rfl) ?_
        · rw [k4 _ hpo, k2 _ (Ne.symm hfi), h2o _ (Ne.symm hsb)]; exact hs1
        · rw [List.getElem?_append_right (by omega)]; simp [k3]
        · rw [k4 _ hfol]; exact k1
        · refine .inr ⟨sb, c, _, by simp, (k4 _ hsl _).trans ((k2 sb hsf).trans h2sb), by rw [over_len (by simp; omega)]; exact g2, by simp; omega, g4, ?_⟩
          rw [List.length_append, List.length_singleton, over_take3 (by omega), g5]
          simp [Iid.c]
        · intro id j1 j2 j3 j4
          rw [k4 id j1, k2 id j3, h2o id (by simpa [blk] using j4), hs2 id j2]
      · simp only [List.length_append, List.length_cons, List.length_nil, hs3, Nat.zero_add, Nat.reduceAdd, AV.cells, List.append_assoc, List.cons_append, List.nil_append]
        refine tree_s (tree_start (goesT_eq (by simp -implicitDefEqProofs (disch := (first | omega | (simp; done) | fail)) [if_pos, if_neg, hfo3]; rfl) ?_))
        refine goesT_done ?_
        (try simp only [vq, if_true, reduceIte, Nat.reduceEqDiff, reduceCtorEq])
        have k1 : (H1.set fo (.cells [.map i1, .map i2, .map i3, (.arr (H.length + 3) 0 (stk.length + 1) c'), gv]))[fo]? = some (.cells [.map i1, .map i2, .map i3, (.arr (H.length + 3) 0 (stk.length + 1) c'), gv]) := List.getElem?_set_self (by omega)
        have k2 : ∀ id, id ≠ fo → (H1.set fo (.cells [.map i1, .map i2, .map i3, (.arr (H.length + 3) 0 (stk.length + 1) c'), gv]))[id]? = H1[id]? := fun id h => List.getElem?_set_ne (Ne.symm h)
        have k3 : (H1.set fo (.cells [.map i1, .map i2, .map i3, (.arr (H.length + 3) 0 (stk.length + 1) c'), gv])).length = H.length := by rw [List.length_set, hs3]
        generalize H1.set fo (.cells [.map i1, .map i2, .map i3, (.arr (H.length + 3) 0 (stk.length + 1) c'), gv]) = H3 at *
        rw [← k3]
        repeat (first | ((first | refine zd ?_ | refine zx ?_ | refine zk ?_ | refine zl ?_ | refine zr ?_); refine zq ?_) | refine zs ?_ | refine zg ?_ | refine zb ?_ | refine zo ?_ | refine zt ?_ | refine zf ?_)
        first | refine body_all (.inr rfl) (by simp -implicitDefEqProofs; rfl) (by simp -implicitDefEqProofs; rfl) (by first | (simp; done) | (simp; omega) | omega) ?_ | refine body_all (.inl rfl) (by simp -implicitDefEqProofs; rfl) (by simp -implicitDefEqProofs; rfl) (by first | (simp; done) | (simp; omega) | omega) ?_
        refine ⟨rfl, (.arr (H.length + 3) 0 (stk.length + 1) c'), fun y => if y = x then H.length + 2 else mid y, ?_⟩
        have k4 : ∀ id, id < H.length → ∀ Y : AHeap, (H3 ++ Y)[id]? = H3[id]? := fun id h Y => List.getElem?_append_left (by omega)
        refine F.meet (p := p) (m0 := H.length + 2) hx hp (by simp [k3]) (by omega) ?_ ?_ ?_ ?_ (.inr ⟨H.length + 3, by omega, by omega, rfl⟩) ?_
        · rw [k4 _ hpo, k2 _ (Ne.symm hfi)]; exact hs1
        · rw [List.getElem?_append_right (by omega)]; simp [k3]
        · rw [k4 _ hfol]; exact k1
        · have hcs : cs = stk.flatMap Iid.c := by rw [← g5, List.take_of_length_le (by omega)]
          refine .inr ⟨H.length + 3, c', cs ++ iv x.e :: iv x.n :: iv x.o :: u, by simp, by rw [List.getElem?_append_right (by omega)]; simp [k3], by simp [hu, g2]; omega, by simp; omega, by omega, ?_⟩
          rw [hcs, show stk.flatMap Iid.c ++ iv x.e :: iv x.n :: iv x.o :: u = (stk ++ [x]).flatMap Iid.c ++ u from by simp [Iid.c], List.take_left' (flc_len _)]
        · intro id j1 j2 j3 j4
          rw [k4 id j1, k2 id j3, hs2 id j2]
    · refine goesT_done ?_
      refine aats_append (k := 3) (by_ := 24) (m := stk.length) (c := c) (cs := cs) (zc := [iv 0, iv 0, iv 0]) (z := .agg [iv x.e, iv x.n, iv x.o]) rfl rfl (by rfl) (by simp; rfl) (by simp) (by simp) (by simp [iv]) rfl (by decide) rfl (by simp) (.arr _ _ _ _ (g1' _) g2 g3 g4) (by simp [iv]) b1 b2 ?_
      refine ⟨fun hroom id' hid => ?_, fun hfull c' u hc' hu => ?_⟩
      · injection hid with hid
        subst hid
        rw [List.set_append_left _ _ (by omega)]
        have h2fo : ∀ Y : AHeap, (H1.set sb (.cells (V.over cs (stk.length * 3) [iv x.e, iv x.n, iv x.o])) ++ Y)[fo]? = some (.cells [.map i1, .map i2, .map i3, .arr sb 0 stk.length c, gv]) := fun Y => by
          rw [List.getElem?_append_left (by simp; omega), List.getElem?_set_ne hsf, hs2 _ hfi]; exact hfo
        have h2sb : (H1.set sb (.cells (V.over cs (stk.length * 3) [iv x.e, iv x.n, iv x.o])))[sb]? = some (.cells (V.over cs (stk.length * 3) [iv x.e, iv x.n, iv x.o])) := List.getElem?_set_self (by omega)
        have h2o : ∀ id, id ≠ sb → (H1.set sb (.cells (V.over cs (stk.length * 3) [iv x.e, iv x.n, iv x.o])))[id]? = H1[id]? := fun id h => List.getElem?_set_ne (Ne.symm h)
        have h2l : (H1.set sb (.cells (V.over cs (stk.length * 3) [iv x.e, iv x.n, iv x.o]))).length = H.length := by rw [List.length_set, hs3]
        simp only [AV.cells]
        generalize H1.set sb (.cells (V.over cs (stk.length * 3) [iv x.e, iv x.n, iv x.o])) = H2 at *
        refine tree_s (tree_start (goesT_eq (by simp -implicitDefEqProofs (disch := (first | omega | (simp; done) | fail)) [if_pos, if_neg, h2fo]; rfl) ?_))
        refine goesT_done ?_
        (try simp only [vq, if_true, reduceIte, Nat.reduceEqDiff, reduceCtorEq])
        have k1 : (H2.set fo (.cells [.map i1, .map i2, .map i3, (.arr sb 0 (stk.length + 1) c), gv]))[fo]? = some (.cells [.map i1, .map i2, .map i3, (.arr sb 0 (stk.length + 1) c), gv]) := List.getElem?_set_self (by omega)
        have k2 : ∀ id, id ≠ fo → (H2.set fo (.cells [.map i1, .map i2, .map i3, (.arr sb 0 (stk.length + 1) c), gv]))[id]? = H2[id]? := fun id h => List.getElem?_set_ne (Ne.symm h)
        have k3 : (H2.set fo (.cells [.map i1, .map i2, .map i3, (.arr sb 0 (stk.length + 1) c), gv])).length = H.length := by rw [List.length_set, h2l]
        generalize H2.set fo (.cells [.map i1, .map i2, .map i3, (.arr sb 0 (stk.length + 1) c), gv]) = H3 at *
        rw [← k3]
        repeat (first | ((first | refine zd ?_ | refine zx ?_ | refine zk ?_ | refine zl ?_ | refine zr ?_); refine zq ?_) | refine zs ?_ | refine zg ?_ | refine zb ?_ | refine zo ?_ | refine zt ?_ | refine zf ?_)
        first | refine body_all (.inr rfl) (by simp -implicitDefEqProofs; rfl) (by simp -implicitDefEqProofs; rfl) (by first | (simp; done) | (simp; omega) | omega) ?_ | refine body_all (.inl rfl) (by simp -implicitDefEqProofs; rfl) (by simp -implicitDefEqProofs; rfl) (by first | (simp; done) | (simp; omega) | omega) ?_
        refine ⟨rfl, (.arr sb 0 (stk.length + 1) c), fun y => if y = x then H.length + 2 else mid y, ?_⟩
        have k4 : ∀ id, id < H.length → ∀ Y : AHeap, (H3 ++ Y)[id]? = H3[id]? := fun id h Y => List.getElem?_append_left (by omega)
        refine F.meet (p := p) (m0 := H.length + 2) hx hp (by simp [k3]) (by omega) ?_ ?_ ?_ ?_ (.inl rfl) ?_
        · rw [k4 _ hpo, k2 _ (Ne.symm hfi), h2o _ (Ne.symm hsb)]; exact hs1
        · rw [List.getElem?_append_right (by omega)]; simp [k3]
        · rw [k4 _ hfol]; exact k1
        · refine .inr ⟨sb, c, _, by simp, (k4 _ hsl _).trans ((k2 sb hsf).trans h2sb), by rw [over_len (by simp; omega)]; exact g2, by simp; omega, g4, ?_⟩
          rw [List.length_append, List.length_singleton, over_take3 (by omega), g5]
          simp [Iid.c]
        · intro id j1 j2 j3 j4
          rw [k4 id j1, k2 id j3, h2o id (by simpa [blk] using j4), hs2 id j2]
      · simp only [List.length_append, List.length_cons, List.length_nil, hs3, Nat.zero_add, Nat.reduceAdd, AV.cells, List.append_assoc, List.cons_append, List.nil_append]
        refine tree_s (tree_start (goesT_eq (by simp -implicitDefEqProofs (disch := (first | omega | (simp; done) | fail)) [if_pos, if_neg, hfo3]; rfl) ?_))
        refine goesT_done ?_
        (try simp only [vq, if_true, reduceIte, Nat.reduceEqDiff, reduceCtorEq])
        have k1 : (H1.set fo (.cells [.map i1, .map i2, .map i3, (.arr (H.length + 3) 0 (stk.length + 1) c'), gv]))[fo]? = some (.cells [.map i1, .map i2, .map i3, (.arr (H.length + 3) 0 (stk.length + 1) c'), gv]) := List.getElem?_set_self (by omega)
        have k2 : ∀ id, id ≠ fo → (H1.set fo (.cells [.map i1, .map i2, .map i3, (.arr (H.length + 3) 0 (stk.length + 1) c'), gv]))[id]? = H1[id]? := fun id h => List.getElem?_set_ne (Ne.symm h)
        have k3 : (H1.set fo (.cells [.map i1, .map i2, .map i3, (.arr (H.length + 3) 0 (stk.length + 1) c'), gv])).length = H.length := by rw [List.length_set, hs3]
        generalize H1.set fo (.cells [.map i1, .map i2, .map i3, (.arr (H.length + 3) 0 (stk.length + 1) c'), gv]) = H3 at *
        rw [← k3]
        repeat (first | ((first | refine zd ?_ | refine zx ?_ | refine zk ?_ | refine zl ?_ | refine zr ?_); refine zq ?_) | refine zs ?_ | refine zg ?_ | refine zb ?_ | refine zo ?_ | refine zt ?_ | refine zf ?_)
        first | refine body_all (.inr rfl) (by simp -implicitDefEqProofs; rfl) (by simp -implicitDefEqProofs; rfl) (by first | (simp; done) | (simp; omega) | omega) ?_ | refine body_all (.inl rfl) (by simp -implicitDefEqProofs; rfl) (by simp -implicitDefEqProofs; rfl) (by first | (simp; done) | (simp; omega) | omega) ?_
        refine ⟨rfl, (.arr (H.length + 3) 0 (stk.length + 1) c'), fun y => if y = x then H.length + 2 else mid y, ?_⟩
        have k4 : ∀ id, id < H.length → ∀ Y : AHeap, (H3 ++ Y)[id]? = H3[id]? := fun id h Y => List.getElem?_append_left (by omega)
        refine F.meet (p := p) (m0 := H.length + 2) hx hp (by simp [k3]) (by omega) ?_ ?_ ?_ ?_ (.inr ⟨H.length + 3, by omega, by omega, rfl⟩) ?_
        · rw [k4 _ hpo, k2 _ (Ne.symm hfi)]; exact hs1
        · rw [List.getElem?_append_right (by omega)]; simp [k3]
        · rw [k4 _ hfol]; exact k1
        · have hcs : cs = stk.flatMap Iid.c := by rw [← g5, List.take_of_length_le (by omega)]
          refine .inr ⟨H.length + 3, c', cs ++ iv x.e :: iv x.n :: iv x.o :: u, by simp, by rw [List.getElem?_append_right (by omega)]; simp [k3], by simp [hu, g2]; omega, by simp; omega, by omega, ?_⟩
          rw [hcs, show stk.flatMap Iid.c ++ iv x.e :: iv x.n :: iv x.o :: u = (stk ++ [x]).flatMap Iid.c ++ u from by simp [Iid.c], List.take_left' (flc_len _)]
        · intro id j1 j2 j3 j4
          rw [k4 id j1, k2 id j3, hs2 id j2]
end Go.Proofs.Ytajgeofhlgoifaa.G

/- Graphs: small functions of the library: where one stands, what two numbers say. -/
set_option linter.unusedVariables false
set_option linter.unusedSimpArgs false
set_option maxRecDepth 20000
namespace Go.Proofs.Ytajgeofhlgoifaa.G
open Go Go.Proofs.Ytajgeofhlgoifaa.V Go.Proofs.Ytajgeofhlgoifaa.I Go.RowKit
theorem eqb0 (a b : Iid) : (a.e == b.e && (a.n == b.n && a.o == b.o)) = decide (a = b) := by
  obtain ⟨a1, a2, a3⟩ := a
  obtain ⟨b1, b2, b3⟩ := b
  rw [Bool.eq_iff_iff]
  simp
theorem flc0 (l : List Iid) : (l.flatMap Iid.c).length = l.length * 3 := by
  induction l with
  | nil => rfl
  | cons a l ih => simp only [List.flatMap_cons, List.length_append, List.length_cons, ih, Iid.c, List.length_nil]; omega
theorem part3 {cs : List AV} {ks : List Iid} (h : cs.take (ks.length * 3) = ks.flatMap Iid.c) {i : Nat} (hi : i < ks.length) (hc : ks.length * 3 ≤ cs.length) : (cs.drop (i * 3)).take 3 = [iv ks[i].e, iv ks[i].n, iv ks[i].o] ∧ i * 3 + 3 ≤ cs.length := by
  have h2 : (ks.flatMap Iid.c).drop (i * 3) = ks[i].c ++ (ks.drop (i + 1)).flatMap Iid.c := by
    have h1 : ks.flatMap Iid.c = (ks.take i).flatMap Iid.c ++ (ks[i].c ++ (ks.drop (i + 1)).flatMap Iid.c) := by
      rw [← List.flatMap_cons, ← List.flatMap_append, List.getElem_cons_drop, List.take_append_drop]
    rw [h1, List.drop_left' (by rw [flc0, List.length_take, Nat.min_eq_left (Nat.le_of_lt hi)])]
  refine ⟨?_, by omega⟩
  have h3 : ((cs.take (ks.length * 3)).drop (i * 3)).take 3 = (cs.drop (i * 3)).take 3 := by
    rw [List.drop_take, List.take_take]
    congr 1; omega
  rw [← h3, h, h2]
  simp [Iid.c]
theorem idx_le {x : Iid} : ∀ {l : List Iid} {i : Nat}, l[i]? = some x → l.idxOf x ≤ i
  | [], i, h => by simp at h
  | a :: l, 0, h => by simp at h; subst h; simp
  | a :: l, i + 1, h => by
    rw [List.idxOf_cons]
    have := idx_le (l := l) (i := i) (by simpa using h)
    cases a == x <;> simp <;> omega
def idxI (x : Iid) (ks : List Iid) : Int := if x ∈ ks then (ks.idxOf x : Nat) else -1
theorem gindex_ok (ks : List Iid) (x : Iid) (aid c : Nat) (cs : List AV) (H : AHeap) (hl : ks.length ≤ 1000000) (ho : H[aid]? = some (.cells cs)) (hc : ks.length * 3 ≤ cs.length) (htk : cs.take (ks.length * 3) = ks.flatMap Iid.c) :
    ACalls Try.prog 70 [.arr aid 0 ks.length c, Iid.av x] H fun r h' => r = iv (idxI x ks) ∧ h' = H := by
  have hol : ∀ Y : AHeap, (H ++ Y)[aid]? = some (.cells cs) := fun Y => by rw [List.getElem?_append_left (List.getElem?_eq_some_iff.1 ho).1]; exact ho
  unfold Iid.av Iid.c
  refine acalls_of_awp Try.func70 rfl (by simp only [List.length_cons, List.length_nil]; decide) ?_
  simp only [params_cons, params_nil]
  refine awp_seq ?_
  refine zg ?_
  refine goes_done ?_
  (try simp only [vq, if_true, reduceIte, Nat.reduceEqDiff, reduceCtorEq])
  refine awp_hard (id := H.length) (by simp -implicitDefEqProofs; rfl) ?_
  simp -implicitDefEqProofs only [Slots.melt, AV.melt, Nat.add_left_cancel_iff, Nat.add_eq_left, Nat.left_eq_add, Nat.reduceEqDiff, reduceIte, Nat.succ_ne_self, Nat.one_ne_zero, Nat.zero_ne_one, List.set_append_right, List.set_append_left, Nat.sub_self, Nat.le_refl, Nat.add_sub_cancel_left, Nat.le_add_right, List.set_cons_zero, List.set_cons_succ]
  refine awp_seq ?_
  refine awp_seq ?_
  refine zg ?_
  refine goes_done ?_
  (try simp only [vq, if_true, reduceIte, Nat.reduceEqDiff, reduceCtorEq])
  refine awp_block ?_
  refine awp_loop (fun z st => ∃ (i : Nat) (X : AHeap), z = ks.length - i ∧ i ≤ ks.length ∧ (∀ j (h : j < ks.length), j < i → ks[j] ≠ x) ∧ st.le ⟨Try.f70.ntmps, [(0, .arr aid 0 ks.length c), (3, .ref [iv x.e, iv x.n, iv x.o] 0), (7, iv (ks.length : Nat)), (8, iv (i : Nat))], H ++ X⟩) ks.length ?_ ?_
  rotate_left
  rintro z st ⟨i, X, rfl, hi, hno, hle⟩
  · refine awp_le hle ?_
    clear hle
    by_cases h9 : i = ks.length
    · subst h9
      have q : ¬ (ks.length : Int) < (ks.length : Int) := by omega
      repeat (first | ((first | refine zd ?_ | refine zx ?_ | refine zk ?_ | refine zl ?_ | refine zr ?_); refine zq ?_) | refine zs ?_ | refine zh (by simp -implicitDefEqProofs (disch := (first | omega | (simp; done) | fail)) [if_pos, if_neg, wrap_i64, tmod_pos, tdiv_pos, Int.toNat_add, q]; rfl) ?_ | refine zb ?_ | refine zo ?_ | refine zt ?_ | refine zf ?_)
      first | refine zy (.inr rfl) ?_ | refine zy (.inl rfl) ?_
      simp [idxI]
      intro hx
      obtain ⟨j, hj, e⟩ := List.getElem_of_mem hx
      exact absurd e (hno j hj hj)
    · have hlt : i < ks.length := by omega
      have q : (i : Int) < (ks.length : Int) := by omega
      obtain ⟨p1, p2⟩ := part3 htk hlt hc
      have hne := eqb0 x ks[i]
      generalize hk : ks[i] = k at *
      refine awp_seq ?_
      refine zh (by simp -implicitDefEqProofs (disch := (first | omega | (simp; done) | fail)) [if_pos, if_neg, wrap_i64, tmod_pos, tdiv_pos, Int.toNat_add, q]; rfl) ?_
      refine goes_done ?_
      (try simp only [vq, if_true, reduceIte, Nat.reduceEqDiff, reduceCtorEq])
      refine awp_seq ?_
      refine awp_cond_t rfl ?_
      refine awp_skip ?_
      simp only [vq, if_true, reduceIte, Nat.reduceEqDiff, reduceCtorEq]
      refine awp_seq ?_
      refine awp_block ?_
      refine awp_seq ?_
      refine zg ?_
      refine goes_done ?_
      (try simp only [vq, if_true, reduceIte, Nat.reduceEqDiff, reduceCtorEq])
      refine awp_seq ?_
      by_cases hx : x = k
      · rw [decide_eq_true hx] at hne
        refine awp_draw (.q 0 (.q 1 (.q 2 (.q 3 (.a 4 (.q 5 (.done))))))) (by kernel_rfl) (by kernel_rfl) (tree_start (goesT_eq (by simp -implicitDefEqProofs (disch := (first | omega | (simp; done) | fail)) [if_pos, if_neg, wrap_i64, tmod_pos, tdiv_pos, Int.toNat_add, hol, p1, p2, hne]; rfl) ?_))
        refine goesT_done ?_
        (try simp only [vq, if_true, reduceIte, Nat.reduceEqDiff, reduceCtorEq])
        repeat (first | ((first | refine zd ?_ | refine zx ?_ | refine zk ?_ | refine zl ?_ | refine zr ?_); refine zq ?_) | refine zs ?_ | refine zg ?_ | refine zb ?_ | refine zo ?_ | refine zt ?_ | refine zf ?_)
        first | refine zy (.inr rfl) ?_ | refine zy (.inl rfl) ?_
        have hm : x ∈ ks := by rw [hx, ← hk]; exact List.getElem_mem hlt
        have e : ks.idxOf x = i := by
          have h1 := List.idxOf_lt_length_of_mem hm
          have h2 : ks[ks.idxOf x] = x := List.getElem_idxOf h1
          have h3 : ks.idxOf x ≤ i := idx_le (by rw [List.getElem?_eq_getElem hlt, hk, hx])
          rcases Nat.lt_or_ge (ks.idxOf x) i with h | h
          · exact absurd h2 (hno _ h1 h)
          · omega
        simp [idxI, hm, e]
      · rw [decide_eq_false hx] at hne
        refine awp_draw (.q 0 (.q 1 (.q 2 (.q 3 (.a 4 (.q 5 (.done))))))) (by kernel_rfl) (by kernel_rfl) (tree_start (goesT_eq (by simp -implicitDefEqProofs (disch := (first | omega | (simp; done) | fail)) [if_pos, if_neg, wrap_i64, tmod_pos, tdiv_pos, Int.toNat_add, hol, p1, p2, hne]; rfl) ?_))
        refine goesT_done ?_
        (try simp only [vq, if_true, reduceIte, Nat.reduceEqDiff, reduceCtorEq])
        repeat (first | ((first | refine zd ?_ | refine zx ?_ | refine zk ?_ | refine zl ?_ | refine zr ?_); refine zq ?_) | refine zs ?_ | refine zg ?_ | refine zb ?_ | refine zo ?_ | refine zt ?_ | refine zf ?_)
        refine ⟨ks.length - (i + 1), by omega, i + 1, X, rfl, hlt, fun j h hj => ?_, st_keep' (by simp []) (by simp [])⟩
        by_cases e : j = i
        · subst e; rw [hk]; exact fun e => hx e.symm
        · exact hno j h (by omega)
  · exact ⟨0, [.dead], rfl, by omega, by omega, st_keep' (by simp []) (by simp [])⟩
theorem aops_nilcmp_arr {P : Program} {E : Env P} {ops : Array Oper} {o : Oper} {r : List Oper} {n : Nat} {s : Slots} {h : AHeap} {K : ASt → Prop} {t t2 e : TypeId} {id off m c : Nat} {x : Operand} (hop : o.op = .binOp .eql t x (.const (.slice none 0 0)) t2) (hg : o.guard = none)
    (ht : P.underlying t = some (.slice e)) (hx : Slots.ev s x = .arr id off m c) (k : AOps E ops r ⟨n, Slots.put n s o.dst (.bool false), h⟩ K) : AOps E ops (o :: r) ⟨n, s, h⟩ K :=
  aops_one hg (aope_of_gives (s := fun a => (do eqGuard .eql t x (.const (.slice none 0 0)) (a.eval x) (.slice none 0 0); binOp .eql t (a.eval x) (.slice none 0 0))) (fun a => by simp [execOp, hop, Act.eval]) (fun c => by rw [hop]; simp) fun w0 g w a ra S => by
    have rx := ra.ev x
    simp only at rx
    rw [hx] at rx
    obtain ⟨hid, b, o', hb, hc, hm, ho0, hv⟩ := rx.arr_eq
    rw [hv]
    exact ⟨_, _, k, .bool false, w, g, nilcmp_run w t e _ m c _ _ ht, .refl g, .bool _, S⟩)
theorem gclone_arr (ks : List Iid) (id off m c2 : Nat) (cs : List AV) (H : AHeap) (ho : H[id]? = some (.cells cs)) (hm : m = ks.length) (hp : 0 < m) (hl : ks.length ≤ 1000000) (hcl : off + m * 3 ≤ cs.length) (hf : ks.flatMap Iid.c = (cs.drop off).take (m * 3)) :
    ACalls Try.prog 63 [.arr id off m c2] H fun r h' => ∃ c u, ks.length ≤ c ∧ u.length = (c - ks.length) * 3 ∧ r = .arr H.length 0 ks.length c ∧ h' = H ++ [.cells (ks.flatMap Iid.c ++ u)] := by
  subst hm
  have b1 : ks.length * 24 ≤ 140737488355328 ∧ ks.length ≤ 140737488355328 := by omega
  have hu : uni 3 (ks.map Iid.av) = true := uni_map fun _ => rfl
  have hfl : ∀ l : List Iid, (l.map Iid.av).flatMap AV.cells = l.flatMap Iid.c := fun l => by
    induction l with
    | nil => rfl
    | cons a l ih => simp only [List.map_cons, List.flatMap_cons, ih]; rfl
  refine acalls_of_awp Try.func63 rfl (by simp only [List.length_cons, List.length_nil]; decide) ?_
  simp only [params_cons, params_nil]
  refine awp_seq (awp_region' ?_)
  refine zn ?_
  refine goes_done ?_
  simp only [vq, if_true, reduceIte, Nat.reduceEqDiff, reduceCtorEq]
  refine awp_seq (awp_seq (awp_region_at 1 rfl rfl ?_))
  refine zn ?_
  refine goes_done ?_
  refine aops_nilcmp_arr (id := id) (off := off) (m := ks.length) (c := c2) rfl rfl Try.underlying23 rfl ?_
  refine aops_end ?_
  refine zn ?_
  refine goes_done ?_
  simp only [vq, if_true, reduceIte, Nat.reduceEqDiff, reduceCtorEq]
  refine awp_cond_f rfl ?_
  refine awp_skip ?_
  simp only [vq, if_true, reduceIte, Nat.reduceEqDiff, reduceCtorEq]
  refine awp_seq (awp_region_at 2 rfl rfl ?_)
  refine zn ?_
  refine goes_done ?_
  refine aops_append_part (e := 25) (k := 3) (by_ := 24) (id := id) (off := off) (m := ks.length) (c2 := c2) (cs := cs) (zc := [iv 0, iv 0, iv 0]) (ys := ks.map Iid.av) rfl rfl Try.underlying23 (by rfl) (by rfl) (by rfl) rfl (by decide) ⟨_, Try.underlying23⟩ rfl rfl ho hp (by simp) hu hcl (by rw [hfl]; exact hf) b1.1 b1.2 ?_
  intro c' u hc' hu
  rw [← hf]
  refine aops_end ?_
  refine zn ?_
  refine goes_done ?_
  simp only [vq, if_true, reduceIte, Nat.reduceEqDiff, reduceCtorEq]
  repeat (first | ((first | refine zd ?_ | refine zx ?_ | refine zk ?_ | refine zl ?_ | refine zr ?_); refine zq ?_) | refine zs ?_ | refine zg ?_ | refine zb ?_ | refine zo ?_ | refine zt ?_ | refine zf ?_)
  first | refine body_all (.inr rfl) (by simp -implicitDefEqProofs; rfl) (by simp -implicitDefEqProofs; rfl) (by first | (simp; done) | (simp; omega) | omega) ?_ | refine body_all (.inl rfl) (by simp -implicitDefEqProofs; rfl) (by simp -implicitDefEqProofs; rfl) (by first | (simp; done) | (simp; omega) | omega) ?_
  exact ⟨c', u, hc', hu, rfl, by simp⟩
def cmpI (a b : Int) : Int := if a < b then -1 else if b < a then 1 else 0
theorem gcompare_ok (a b : Int) (H : AHeap) : ACalls Try.prog 67 [iv a, iv b] H fun r h' => r = iv (cmpI a b) ∧ h' = H := by
  have hnan : ∀ (a : Int) (H : AHeap), ACalls Try.prog 84 [iv a] H fun r h' => r = .bool false ∧ h' = H := fun a H => by
    refine acalls_of_awp Try.func84 rfl (by simp only [List.length_cons, List.length_nil]; decide) ?_
    simp only [params_cons, params_nil]
    repeat (first | ((first | refine zd ?_ | refine zx ?_ | refine zk ?_ | refine zl ?_ | refine zr ?_); refine zq ?_) | refine zs ?_ | refine zg ?_ | refine zb ?_ | refine zo ?_ | refine zt ?_ | refine zf ?_)
    first | refine zY (.inr rfl) ?_ | refine zY (.inl rfl) ?_
    simp
  refine acalls_of_awp Try.func67 rfl (by simp only [List.length_cons, List.length_nil]; decide) ?_
  simp only [params_cons, params_nil]
  repeat (first | ((first | refine zd ?_ | refine zx ?_ | refine zk ?_ | refine zl ?_ | refine zr ?_); refine zq ?_) | refine zs ?_ | refine zg ?_ | refine zb ?_ | refine zo ?_ | refine zt ?_ | refine zf ?_)
  refine zp (callable_of Try.func84) _ (hnan _ _) ?_
  rintro _ _ ⟨rfl, rfl⟩
  refine ze ?_
  repeat (first | ((first | refine zd ?_ | refine zx ?_ | refine zk ?_ | refine zl ?_ | refine zr ?_); refine zq ?_) | refine zs ?_ | refine zg ?_ | refine zb ?_ | refine zo ?_ | refine zt ?_ | refine zf ?_)
  refine zp (callable_of Try.func84) _ (hnan _ _) ?_
  rintro _ _ ⟨rfl, rfl⟩
  unfold cmpI
  by_cases h1 : a < b
  · refine ze ?_
    repeat (first | ((first | refine zd ?_ | refine zx ?_ | refine zk ?_ | refine zl ?_ | refine zr ?_); refine zq ?_) | refine zs ?_ | refine zh (by simp -implicitDefEqProofs (disch := (first | omega | (simp; done) | fail)) [if_pos, if_neg, wrap_i64, tmod_pos, tdiv_pos, Int.toNat_add, h1]; rfl) ?_ | refine zb ?_ | refine zo ?_ | refine zt ?_ | refine zf ?_)
    first | refine zY (.inr rfl) ?_ | refine zY (.inl rfl) ?_
    simp [h1]
  · by_cases h2 : b < a
    · refine ze ?_
      repeat (first | ((first | refine zd ?_ | refine zx ?_ | refine zk ?_ | refine zl ?_ | refine zr ?_); refine zq ?_) | refine zs ?_ | refine zh (by simp -implicitDefEqProofs (disch := (first | omega | (simp; done) | fail)) [if_pos, if_neg, wrap_i64, tmod_pos, tdiv_pos, Int.toNat_add, h1, h2]; rfl) ?_ | refine zb ?_ | refine zo ?_ | refine zt ?_ | refine zf ?_)
      first | refine zY (.inr rfl) ?_ | refine zY (.inl rfl) ?_
      simp [h1, h2]
    · refine ze ?_
      repeat (first | ((first | refine zd ?_ | refine zx ?_ | refine zk ?_ | refine zl ?_ | refine zr ?_); refine zq ?_) | refine zs ?_ | refine zh (by simp -implicitDefEqProofs (disch := (first | omega | (simp; done) | fail)) [if_pos, if_neg, wrap_i64, tmod_pos, tdiv_pos, Int.toNat_add, h1, h2]; rfl) ?_ | refine zb ?_ | refine zo ?_ | refine zt ?_ | refine zf ?_)
      first | refine zY (.inr rfl) ?_ | refine zY (.inl rfl) ?_
      simp [h1, h2]
def orI (a b : Int) : Int := if a = 0 then b else a
theorem gor_ok (a b : Int) (t : Tok) (H : AHeap) : ACalls Try.prog 66 [.list [iv a, iv b] t] H fun r h' => r = iv (orI a b) ∧ h' = H := by
  refine acalls_of_awp Try.func66 rfl (by simp only [List.length_cons, List.length_nil]; decide) ?_
  simp only [params_cons, params_nil]
  refine awp_seq ?_
  refine zg ?_
  refine goes_done ?_
  (try simp only [vq, if_true, reduceIte, Nat.reduceEqDiff, reduceCtorEq])
  refine awp_seq ?_
  refine zg ?_
  refine goes_done ?_
  (try simp only [vq, if_true, reduceIte, Nat.reduceEqDiff, reduceCtorEq])
  refine awp_seq ?_
  refine awp_seq ?_
  refine zg ?_
  refine goes_done ?_
  (try simp only [vq, if_true, reduceIte, Nat.reduceEqDiff, reduceCtorEq])
  refine awp_block ?_
  refine awp_loop (fun z st => ∃ (i : Nat), z = 2 - i ∧ i ≤ 2 ∧ (1 ≤ i → a = 0) ∧ (i = 2 → b = 0) ∧ st.le ⟨Try.f66.ntmps, [(6, .list [iv a, iv b] t), (7, .int .i64 2), (3, .int .i64 0), (8, iv (i : Nat))], H⟩) 2 ?_ ?_
  rotate_left
  rintro z st ⟨i, rfl, hi, h1, h2, hle⟩
  · refine awp_le hle ?_
    clear hle
    have h3 : i = 0 ∨ i = 1 ∨ i = 2 := by omega
    rcases h3 with rfl | rfl | rfl
    · by_cases ha : a = 0
      · have e : (a != 0) = false := by simp [ha]
        repeat (first | ((first | refine zd ?_ | refine zx ?_ | refine zk ?_ | refine zl ?_ | refine zr ?_); refine zq ?_) | refine zs ?_ | refine zh (by simp -implicitDefEqProofs (disch := (first | omega | (simp; done) | fail)) [if_pos, if_neg, wrap_i64, tmod_pos, tdiv_pos, Int.toNat_add, e]; rfl) ?_ | refine zb ?_ | refine zo ?_ | refine zt ?_ | refine zf ?_)
        exact ⟨1, by omega, 1, rfl, by omega, fun _ => ha, fun h => by omega, st_keep' (by simp []) (by simp [])⟩
      · have e : (a != 0) = true := by simp [ha]
        repeat (first | ((first | refine zd ?_ | refine zx ?_ | refine zk ?_ | refine zl ?_ | refine zr ?_); refine zq ?_) | refine zs ?_ | refine zh (by simp -implicitDefEqProofs (disch := (first | omega | (simp; done) | fail)) [if_pos, if_neg, wrap_i64, tmod_pos, tdiv_pos, Int.toNat_add, e]; rfl) ?_ | refine zb ?_ | refine zo ?_ | refine zt ?_ | refine zf ?_)
        first | refine zY (.inr rfl) ?_ | refine zY (.inl rfl) ?_
        simp [orI, ha]
    · have ha := h1 (by omega)
      by_cases hb : b = 0
      · have e : (b != 0) = false := by simp [hb]
        repeat (first | ((first | refine zd ?_ | refine zx ?_ | refine zk ?_ | refine zl ?_ | refine zr ?_); refine zq ?_) | refine zs ?_ | refine zh (by simp -implicitDefEqProofs (disch := (first | omega | (simp; done) | fail)) [if_pos, if_neg, wrap_i64, tmod_pos, tdiv_pos, Int.toNat_add, e]; rfl) ?_ | refine zb ?_ | refine zo ?_ | refine zt ?_ | refine zf ?_)
        exact ⟨0, by omega, 2, rfl, by omega, fun _ => ha, fun h => hb, st_keep' (by simp []) (by simp [])⟩
      · have e : (b != 0) = true := by simp [hb]
        repeat (first | ((first | refine zd ?_ | refine zx ?_ | refine zk ?_ | refine zl ?_ | refine zr ?_); refine zq ?_) | refine zs ?_ | refine zh (by simp -implicitDefEqProofs (disch := (first | omega | (simp; done) | fail)) [if_pos, if_neg, wrap_i64, tmod_pos, tdiv_pos, Int.toNat_add, e]; rfl) ?_ | refine zb ?_ | refine zo ?_ | refine zt ?_ | refine zf ?_)
        first | refine zY (.inr rfl) ?_ | refine zY (.inl rfl) ?_
        simp [orI, ha]
    · have ha := h1 (by omega)
      have hb := h2 rfl
      repeat (first | ((first | refine zd ?_ | refine zx ?_ | refine zk ?_ | refine zl ?_ | refine zr ?_); refine zq ?_) | refine zs ?_ | refine zg ?_ | refine zb ?_ | refine zo ?_ | refine zt ?_ | refine zf ?_)
      first | refine zY (.inr rfl) ?_ | refine zY (.inl rfl) ?_
      simp [orI, ha, hb]
  · exact ⟨0, rfl, by omega, fun h => by omega, fun h => by omega, st_keep' (by simp []) (by simp [])⟩
end Go.Proofs.Ytajgeofhlgoifaa.G

/- Graphs: which of a group comes first. -/
set_option linter.unusedVariables false
set_option linter.unusedSimpArgs false
set_option maxRecDepth 20000
namespace Go.Proofs.Ytajgeofhlgoifaa.G
open Go Go.Proofs.Ytajgeofhlgoifaa.V Go.Proofs.Ytajgeofhlgoifaa.I Go.Sort Go.RowKit
def ordC (l : List Nod) (a b : Iid) : Int := orI (cmpI (sqOf l a) (sqOf l b)) (ordG a b)
/-- In a group: by numbers, then by IDs. -/
def keyC (l : List Nod) (a b : Iid) : Bool := decide (sqOf l a < sqOf l b) || (decide (sqOf l a = sqOf l b) && lessB a b)
theorem ltC (l : List Nod) (a b : Iid) : ltOf (ordC l) a b = keyC l a b := by
  have h := ltG a b
  unfold ltOf at h ⊢
  unfold ordC orI cmpI keyC
  by_cases h1 : sqOf l a < sqOf l b
  · simp [h1]
  · by_cases h2 : sqOf l b < sqOf l a
    · have h3 : ¬ sqOf l a = sqOf l b := by omega
      simp [h1, h2, h3]
    · have h3 : sqOf l a = sqOf l b := by omega
      simp [h3]
      simpa using h
theorem ltC_eq (l : List Nod) : ltOf (ordC l) = keyC l := by funext a b; exact ltC l a b
theorem keyC_swo (l : List Nod) : SWO (keyC l) := by
  have S := ordG_swo
  have e : ∀ a b, ltOf ordG a b = lessB a b := ltG
  refine ⟨fun x => ?_, fun x y z h1 h2 => ?_, fun x y z h1 h2 => ?_⟩
  · have := S.irrefl x
    rw [e] at this
    simp [keyC, this]
  · simp only [keyC, Bool.or_eq_true, Bool.and_eq_true, decide_eq_true_eq] at h1 h2 ⊢
    rcases h1 with h1 | ⟨h1, h3⟩
    · rcases h2 with h2 | ⟨h2, h4⟩
      · exact .inl (by omega)
      · exact .inl (by omega)
    · rcases h2 with h2 | ⟨h2, h4⟩
      · exact .inl (by omega)
      · have := S.trans x y z
        rw [e, e, e] at this
        exact .inr ⟨by omega, this h3 h4⟩
  · have k := S.ntrans x y z
    rw [e, e, e] at k
    simp only [keyC, Bool.or_eq_false_iff, Bool.and_eq_false_iff, decide_eq_false_iff_not] at h1 h2 ⊢
    obtain ⟨a1, a2⟩ := h1
    obtain ⟨b1, b2⟩ := h2
    refine ⟨by omega, ?_⟩
    by_cases q : sqOf l x = sqOf l z
    · rcases a2 with a2 | a2
      · omega
      · rcases b2 with b2 | b2
        · omega
        · exact .inr (k a2 b2)
    · exact .inl q
theorem keyC_total (l : List Nod) (x y : Iid) (h1 : keyC l x y = false) (h2 : keyC l y x = false) : x = y := by
  have k := ordG_total x y
  rw [ltG, ltG] at k
  simp only [keyC, Bool.or_eq_false_iff, Bool.and_eq_false_iff, decide_eq_false_iff_not] at h1 h2
  obtain ⟨a1, a2⟩ := h1
  obtain ⟨b1, b2⟩ := h2
  rcases a2 with a2 | a2
  · omega
  · rcases b2 with b2 | b2
    · omega
    · exact k a2 b2
theorem cmpC_ok (l : List Nod) (a b : Iid) (id : Nat) (H : AHeap) (hn : H[id]? = some (rmapO Iid.av (nodP l).1 (nodP l).2)) :
    ACalls Try.prog 71 [Iid.av a, Iid.av b, .ref [.ref [.map id] 0] 0] H fun r h' => r = iv (ordC l a b) := by
  have hn2 : ∀ Y : AHeap, (H ++ Y)[id]? = some (rmapO Iid.av (nodP l).1 (nodP l).2) := fun Y => by rw [List.getElem?_append_left (get_lt hn)]; exact hn
  have hu := Try.underlying53
  have hH : ∀ Y : AHeap, HeldA Y [] := fun Y q hq => by cases hq
  obtain ⟨ta, ha⟩ := look_nod l a
  obtain ⟨tb, hb⟩ := look_nod l b
  have hgo := fun h => gorder_ok a b h
  unfold Iid.av Iid.c at hgo ⊢
  refine acalls_of_awp Try.func71 rfl (by simp only [List.length_cons, List.length_nil]; decide) ?_
  simp only [params_cons, params_nil]
  refine awp_seq ?_
  refine zg ?_
  refine goes_done ?_
  (try simp only [vq, if_true, reduceIte, Nat.reduceEqDiff, reduceCtorEq])
  refine awp_hard (id := H.length) (by simp -implicitDefEqProofs; rfl) ?_
  simp -implicitDefEqProofs only [Slots.melt, AV.melt, Nat.add_left_cancel_iff, Nat.add_eq_left, Nat.left_eq_add, Nat.reduceEqDiff, reduceIte, Nat.succ_ne_self, Nat.one_ne_zero, Nat.zero_ne_one, List.set_append_right, List.set_append_left, Nat.sub_self, Nat.le_refl, Nat.add_sub_cancel_left, Nat.le_add_right, List.set_cons_zero, List.set_cons_succ]
  refine awp_hard (id := H.length + 1) (by simp -implicitDefEqProofs; rfl) ?_
  simp -implicitDefEqProofs only [Slots.melt, AV.melt, Nat.add_left_cancel_iff, Nat.add_eq_left, Nat.left_eq_add, Nat.reduceEqDiff, reduceIte, Nat.succ_ne_self, Nat.one_ne_zero, Nat.zero_ne_one, List.set_append_right, List.set_append_left, Nat.sub_self, Nat.le_refl, Nat.add_sub_cancel_left, Nat.le_add_right, List.set_cons_zero, List.set_cons_succ]
  refine awp_seq ?_
  refine awp_drawH [] (.q 0 (.q 1 (.q 2 (.q 3 (.q 4 (.q 5 (.q 8 (.q 9 (.q 10 (.q 11 (.q 12 (.q 13 (.q 17 (.q 18 (.two 6 14 (.q 7 (.a 14 (.q 15 (.a 16 (.a 19 (.a 20 (.a 21 (.q 22 (.done))))))))) (.q 15 (.a 6 (.q 7 (.a 16 (.a 19 (.a 20 (.a 21 (.q 22 (.done)))))))))))))))))))))))) (hH _) (by kernel_rfl) (by kernel_rfl) ?_
  refine treeH_qs (l := [0, 1, 2, 3, 4, 5, 8, 9, 10, 11, 12, 13, 17, 18]) (tree_start (goesT_eq (by simp -implicitDefEqProofs (disch := (first | omega | (simp; done) | fail)) [if_pos, if_neg, wrap_i64]; rfl) ?_))
  refine goesT_done ⟨rfl, ?_⟩
  refine treeH_two ?_ ?_
  · refine aats_lookR (id := id) (es := (nodP l).1) (clock := (nodP l).2) (k := a) (z := zAt) iid_key rfl rfl (by rfl) hu zero_attr rfl rfl (hn2 _) ⟨hH _, ?_⟩
    rw [ha]
    refine treeH_qs (l := [7]) (tree_start (goesT_eq (by simp -implicitDefEqProofs (disch := (first | omega | (simp; done) | fail)) [if_pos, if_neg, wrap_i64]; rfl) ?_))
    refine goesT_done ⟨rfl, ?_⟩
    refine treeH_a (aats_lookR (id := id) (es := (nodP l).1) (clock := (nodP l).2) (k := b) (z := zAt) iid_key rfl rfl (by rfl) hu zero_attr rfl rfl (hn2 _) ⟨hH _, ?_⟩)
    rw [hb]
    refine treeH_qs (l := [15]) (tree_start (goesT_eq (by simp -implicitDefEqProofs (disch := (first | omega | (simp; done) | fail)) [if_pos, if_neg, wrap_i64]; rfl) ?_))
    refine goesT_done ⟨rfl, ?_⟩
    refine treeH_auto (tree_start (goesT_eq (by simp -implicitDefEqProofs (disch := (first | omega | (simp; done) | fail)) [if_pos, if_neg, wrap_i64]; rfl) ?_))
    refine zP (callable_of Try.func67) _ (gcompare_ok (sqOf l a) (sqOf l b) _) ?_
    rintro _ _ ⟨rfl, rfl⟩
    refine zE ?_
    refine goesT_done ⟨hH _, ?_⟩
    refine treeH_auto (tree_start (goesT_eq (by simp -implicitDefEqProofs (disch := (first | omega | (simp; done) | fail)) [if_pos, if_neg, wrap_i64]; rfl) ?_))
    refine zP (callable_of Try.func33) _ (hgo _) ?_
    rintro _ _ ⟨rfl, rfl⟩
    refine zE ?_
    refine goesT_done ⟨hH _, ?_⟩
    refine treeH_auto (tree_start (goesT_eq (by simp -implicitDefEqProofs (disch := (first | omega | (simp; done) | fail)) [if_pos, if_neg, wrap_i64]; rfl) ?_))
    refine goesT_done ⟨hH _, ?_⟩
    refine treeH_auto (tree_start (goesT_eq (by simp -implicitDefEqProofs (disch := (first | omega | (simp; done) | fail)) [if_pos, if_neg, wrap_i64]; rfl) ?_))
    refine zP (callable_of Try.func66) _ (gor_ok (cmpI (sqOf l a) (sqOf l b)) (ordG a b) .no _) ?_
    rintro _ _ ⟨rfl, rfl⟩
    refine zE ?_
    refine goesT_done ⟨hH _, ?_⟩
    refine treeH_qs (l := [22]) (tree_start (goesT_eq (by simp -implicitDefEqProofs (disch := (first | omega | (simp; done) | fail)) [if_pos, if_neg, wrap_i64]; rfl) ?_))
    refine goesT_done ⟨rfl, ?_⟩
    refine treeH_done ?_
    repeat (first | ((first | refine zd ?_ | refine zx ?_ | refine zk ?_ | refine zl ?_ | refine zr ?_); refine zq ?_) | refine zs ?_ | refine zg ?_ | refine zb ?_ | refine zo ?_ | refine zt ?_ | refine zf ?_)
    first | refine body_all (.inr rfl) (by simp -implicitDefEqProofs; rfl) (by simp -implicitDefEqProofs; rfl) (by first | (simp; done) | (simp; omega) | omega) ?_ | refine body_all (.inl rfl) (by simp -implicitDefEqProofs; rfl) (by simp -implicitDefEqProofs; rfl) (by first | (simp; done) | (simp; omega) | omega) ?_
    rfl
  · refine aats_lookR (id := id) (es := (nodP l).1) (clock := (nodP l).2) (k := b) (z := zAt) iid_key rfl rfl (by rfl) hu zero_attr rfl rfl (hn2 _) ⟨hH _, ?_⟩
    rw [hb]
    refine treeH_qs (l := [15]) (tree_start (goesT_eq (by simp -implicitDefEqProofs (disch := (first | omega | (simp; done) | fail)) [if_pos, if_neg, wrap_i64]; rfl) ?_))
    refine goesT_done ⟨rfl, ?_⟩
    refine treeH_a (aats_lookR (id := id) (es := (nodP l).1) (clock := (nodP l).2) (k := a) (z := zAt) iid_key rfl rfl (by rfl) hu zero_attr rfl rfl (hn2 _) ⟨hH _, ?_⟩)
    rw [ha]
    refine treeH_qs (l := [7]) (tree_start (goesT_eq (by simp -implicitDefEqProofs (disch := (first | omega | (simp; done) | fail)) [if_pos, if_neg, wrap_i64]; rfl) ?_))
    refine goesT_done ⟨rfl, ?_⟩
    refine treeH_auto (tree_start (goesT_eq (by simp -implicitDefEqProofs (disch := (first | omega | (simp; done) | fail)) [if_pos, if_neg, wrap_i64]; rfl) ?_))
    refine zP (callable_of Try.func67) _ (gcompare_ok (sqOf l a) (sqOf l b) _) ?_
    rintro _ _ ⟨rfl, rfl⟩
    refine zE ?_
    refine goesT_done ⟨hH _, ?_⟩
    refine treeH_auto (tree_start (goesT_eq (by simp -implicitDefEqProofs (disch := (first | omega | (simp; done) | fail)) [if_pos, if_neg, wrap_i64]; rfl) ?_))
    refine zP (callable_of Try.func33) _ (hgo _) ?_
    rintro _ _ ⟨rfl, rfl⟩
    refine zE ?_
    refine goesT_done ⟨hH _, ?_⟩
    refine treeH_auto (tree_start (goesT_eq (by simp -implicitDefEqProofs (disch := (first | omega | (simp; done) | fail)) [if_pos, if_neg, wrap_i64]; rfl) ?_))
    refine goesT_done ⟨hH _, ?_⟩
    refine treeH_auto (tree_start (goesT_eq (by simp -implicitDefEqProofs (disch := (first | omega | (simp; done) | fail)) [if_pos, if_neg, wrap_i64]; rfl) ?_))
    refine zP (callable_of Try.func66) _ (gor_ok (cmpI (sqOf l a) (sqOf l b)) (ordG a b) .no _) ?_
    rintro _ _ ⟨rfl, rfl⟩
    refine zE ?_
    refine goesT_done ⟨hH _, ?_⟩
    refine treeH_qs (l := [22]) (tree_start (goesT_eq (by simp -implicitDefEqProofs (disch := (first | omega | (simp; done) | fail)) [if_pos, if_neg, wrap_i64]; rfl) ?_))
    refine goesT_done ⟨rfl, ?_⟩
    refine treeH_done ?_
    repeat (first | ((first | refine zd ?_ | refine zx ?_ | refine zk ?_ | refine zl ?_ | refine zr ?_); refine zq ?_) | refine zs ?_ | refine zg ?_ | refine zb ?_ | refine zo ?_ | refine zt ?_ | refine zf ?_)
    first | refine body_all (.inr rfl) (by simp -implicitDefEqProofs; rfl) (by simp -implicitDefEqProofs; rfl) (by first | (simp; done) | (simp; omega) | omega) ?_ | refine body_all (.inl rfl) (by simp -implicitDefEqProofs; rfl) (by simp -implicitDefEqProofs; rfl) (by first | (simp; done) | (simp; omega) | omega) ?_
    rfl
end Go.Proofs.Ytajgeofhlgoifaa.G

/- Graphs: a group is sorted. -/
set_option linter.unusedVariables false
set_option linter.unusedSimpArgs false
set_option maxRecDepth 20000
namespace Go.Proofs.Ytajgeofhlgoifaa.G
open Go Go.Proofs.Ytajgeofhlgoifaa.V Go.Proofs.Ytajgeofhlgoifaa.I Go.Sort Go.RowKit
theorem nod_val (l : List Nod) : ∀ q ∈ (nodP l).1, ∃ s d, q.2.1 = atv s d := by
  induction l using snoc_ind with
  | h0 => intro q hq; cases hq
  | h1 l x ih =>
    intro q hq
    rw [nodP_snoc] at hq
    have hq' : q ∈ putE x.id (atv x.seq x.deps) (nodP l).2 (nodP l).1 := hq
    unfold putE at hq'
    cases hk : keyAt x.id (nodP l).1 with
    | none =>
      rw [hk] at hq'
      rcases List.mem_append.1 hq' with h | h
      · exact ih q h
      · simp at h; subst h; exact ⟨_, _, rfl⟩
    | some j =>
      rw [hk] at hq'
      exact modify_mem (Q := fun q : Iid × AV × Nat => ∃ s d, q.2.1 = atv s d) (fun _ => ⟨_, _, rfl⟩) _ j ih q hq'
/-- What names no object is so in each ghost that knows as much. -/
theorem vrel_base {g g2 : Ghost} (him : ∀ b o v, g.imm b o = some v → g2.imm b o = some v) {x : AV} {v : Value} (hb : Bel 0 x) (h : VRel g x v) : VRel g2 x v :=
  VRel.mono (g := (g.cut 0).hold g2.pin g2.b0) ⟨Nat.zero_le _, fun i h => absurd h (Nat.not_lt_zero _), him, fun _ _ h => h, rfl⟩ (h.cut hb).hold
theorem bel_atv (s : Int) (d : List Iid) : Bel 0 (atv s d) := by
  unfold atv atc
  refine bel_agg.2 fun x hx => ?_
  rcases List.mem_cons.1 hx with rfl | hx
  · exact .int _ _
  · simp at hx; subst hx
    exact bel_list (belL_map fun x => bel_av)
theorem imm_base {w0 w W : World} {g : Ghost} {h : AHeap} (S : Sim w0 g h w) (hs : ∀ b o v, g.imm b o = some v → W.heap[b]? = w.heap[b]?) : ∀ b o v, g.imm b o = some v → imm0 W b o = some v := fun b o v e => by
  have hh := hs b o v e
  have h1 := S.imm b o v e
  have h2 : W.cell? ⟨b, o, none⟩ = some v := by
    unfold World.cell? at h1 ⊢
    simpa [hh] using h1
  unfold imm0
  rw [h2]
  cases v with
  | int k n =>
    cases k with
    | i64 =>
      have := S.soft b o n e
      rw [← frozen_block (w := w) (w' := W) (a := ⟨b, o, none⟩) hh] at this
      simp [this]
    | _ => rfl
  | _ => rfl
def srtC (l : List Nod) (ks : List Iid) : List Iid := ks.mergeSort fun x y => !(keyC l y x)
/-- The comparator's call, from below. -/
theorem cmpC_calls {w0 w W : World} {g : Ghost} {h : AHeap} (S : Sim w0 g h w) (l : List Nod) (i1 fo : Nat) (r : List AV) (hf : h[fo]? = some (.cells (.map i1 :: r))) (hn : h[i1]? = some (nodP l).o) {cv : Value} (hc : VRel g (.ref [.ptr fo 0] 0) cv)
    (aid : Nat) (cs : List AV) {b : Nat} (ha : h[aid]? = some (.cells cs)) (hb : g.at_ aid = .blk b) (hne : aid ≠ fo) (hW : ∀ k, k < w.heap.size → k ≠ b → W.heap[k]? = w.heap[k]?) (x y : Iid) :
    Calls Try.prog 71 (#[.agg (enc x).toArray, .agg (enc y).toArray] ++ #[cv]) W fun e w' => e = .returned (.int .i64 (ordC l x y)) ∧ ∃ q os', w' = grow (W.drewN q) os' := by
  have hA := S.obj aid _ ha
  rw [hb] at hA
  obtain ⟨_, _, him⟩ := hA
  have himm : ∀ bb o v, g.imm bb o = some v → imm0 W bb o = some v := imm_base S fun bb o v e => hW bb (by
    have := S.imm bb o v e
    unfold World.cell? at this
    rcases Nat.lt_or_ge bb w.heap.size with h | h
    · exact h
    · rw [Array.getElem?_eq_none h] at this; cases this) (fun e2 => by subst e2; rw [him o] at e; cases e)
  cases hc with
  | ref _ _ bb o u h1 h2 =>
    have h1 := h1 0 (by simp)
    have h2 := h2 0 (by simp)
    simp only [Nat.add_zero, List.getElem_cons_zero] at h1 h2
    obtain ⟨hfi, fb, hfb, hfv⟩ := h2.ptr_eq
    obtain ⟨hbase, vs, t, k2, k3, _⟩ := block_cells S hf hfb
    have hfne : fb ≠ b := fun e => by
      subst e
      exact hne (S.sep aid fo _ _ fb ha hf (by simp) (by simp) (by rw [hb]; rfl) (by rw [hfb]; rfl))
    have hv0 : ∃ v0, vs[0]? = some v0 ∧ VRel g (.map i1) v0 := by
      have hl : 0 < vs.size := by have := k3.1; simp at this; omega
      refine ⟨vs[0], by simp [hl], ?_⟩
      have := k3.2 0 (by simp) (by simpa using hl)
      simpa using this
    obtain ⟨v0, hv0, hv1⟩ := hv0
    obtain ⟨hmi, mb, hmb, rfl⟩ := V.map_eq hv1
    have hO := S.obj i1 _ hn
    rw [hmb] at hO
    obtain ⟨hmbase, ces, m2, m3, m4⟩ := hO
    have hmne : mb ≠ b := fun e => by
      subst e
      have := S.sep aid i1 _ _ mb ha hn (by simp) (by simp [MS.o, mapO]) (by rw [hb]; rfl) (by rw [hmb]; rfl)
      subst this
      rw [ha] at hn
      simp [MS.o, mapO] at hn
    have hfW : W.heap[fb]? = some (.cells vs t (0, 0)) := by rw [hW fb (Array.getElem?_eq_some_iff.1 k2).1 hfne]; exact k2
    have hmW : W.heap[mb]? = some (.map ces (nodP l).2) := by rw [hW mb (Array.getElem?_eq_some_iff.1 m2).1 hmne]; exact m2
    have hf0 : imm0 W fb 0 = some (.map (some mb)) := by
      unfold imm0
      rw [cells_cell hfW, hv0]
    have S2 : Sim W ((g0 W).push (.blk mb)) [rmapO Iid.av (nodP l).1 (nodP l).2] W := by
      refine (sim0 W).push (s := .blk mb) (o := rmapO Iid.av (nodP l).1 (nodP l).2) ?_ (fun id o' e => by simp at e) (fun _ _ => rfl)
      refine ⟨ces, hmW, m3, fun i a1 a2 => ?_⟩
      obtain ⟨q1, q2, q3⟩ := m4 i a1 a2
      refine ⟨vrel_base himm ?_ q1, vrel_base himm ?_ q2, q3⟩
      · simp
      · have hm : ((nodP l).1)[i]'(by simpa using a1) ∈ (nodP l).1 := List.getElem_mem _
        obtain ⟨s, d, e⟩ := nod_val l _ hm
        simp only [List.getElem_map]
        rw [e]
        exact bel_atv s d
    refine (cmpC_ok l x y 0 [rmapO Iid.av (nodP l).1 (nodP l).2] rfl W ((g0 W).push (.blk mb)) W _ (cells_cons (iid_back _ x) (cells_cons (iid_back _ y) (cells_cons ?_ (cells_nil _)))) S2).mono ?_
    · refine .ref _ _ bb o (fun _ => u 0) (fun i hi => ?_) fun i hi => ?_
      · have : i = 0 := by simpa using hi
        subst this
        exact himm _ _ _ h1
      · have : i = 0 := by simpa using hi
        subst this
        rw [hfv]
        refine .ref [.map 0] 0 fb 0 (fun _ => .map (some mb)) (fun i hi => ?_) fun i hi => ?_
        · have : i = 0 := by simpa using hi
          subst this
          exact hf0
        · have : i = 0 := by simpa using hi
          subst this
          exact .map 0 mb (Nat.zero_lt_one) (Ghost.push_at _ _)
    · rintro e w' ⟨r, v, h', g', rfl, l, hr, S, rfl⟩
      exact ⟨by rw [hr.int_eq], grown_of S.below S.drawn⟩
theorem gsortC_arr (l : List Nod) (i1 fo : Nat) (r : List AV) (ks : List Iid) (aid c : Nat) (cs : List AV) (h : AHeap) (hf : h[fo]? = some (.cells (.map i1 :: r))) (hn : h[i1]? = some (nodP l).o) (hne : aid ≠ fo) (hk : ks.length ≤ 1000000) (ho : h[aid]? = some (.cells cs)) (hc : cs.length = c * 3) (h0 : 0 < c) (htk : cs.take (ks.length * 3) = ks.flatMap Iid.c) :
    ACalls Try.prog 61 [.arr aid 0 ks.length c, .func (.func 71) [] [.ref [.ptr fo 0] 0]] h fun r h' => r = .tuple [] ∧ h' = h.set aid (.cells ((srtC l ks).flatMap Iid.c ++ cs.drop (ks.length * 3))) := fun w0 g w vs hv S => by
  obtain ⟨v, u, rfl, hva, hvf⟩ := vals_two hv
  obtain ⟨hid, b, o, hb, hle, hm, hoff, rfl⟩ := hva.arr_eq
  obtain rfl : o = 0 := hoff h0
  obtain ⟨kv, hkv, rfl⟩ : ∃ kv, VRel g (.ref [.ptr fo 0] 0) kv ∧ u = .func (.func 71) #[] #[kv] := by
    cases hvf with
    | func fn first captured f c hf hc h1 h2 =>
      have e1 : f = #[] := Array.eq_empty_of_size_eq_zero hf.symm
      subst e1
      have h3 : c.size = 1 := hc.symm
      refine ⟨c[0], h2 0 (by simp) (by omega), ?_⟩
      congr 1
      apply Array.ext
      · simp [h3]
      · intro i a1 a2
        have : i = 0 := by omega
        subst this; simp
  have hO := S.obj aid _ ho
  rw [hb] at hO
  obtain ⟨hbase, ⟨cv, t, hh, hrel⟩, him⟩ := hO
  have hbl : b < w.heap.size := (Array.getElem?_eq_some_iff.1 hh).1
  have hsz : cv.size = c * 3 := by have h5 : cs.length = cv.toList.length := hrel.1; have h6 : cv.toList.length = cv.size := Array.length_toList; omega
  have hfl : ∀ i, w.frozen? ⟨b, i, none⟩ = false := fun i => frozen_no hh
  have hget : ∀ j, j < ks.length * 3 → cv[j]? = some (.int .i64 (cz ks[j / 3]! (j % 3))) := fun j hj => by
    have h1 : j < cs.length := by omega
    have h2 : j < cv.toList.length := by simp; omega
    have h3 := hrel.2 j h1 h2
    have h4 : cs[j]? = some (iv (cz ks[j / 3]! (j % 3))) := by
      rw [← flc_some hj, ← htk, List.getElem?_take, if_pos hj]
    rw [List.getElem?_eq_getElem h1] at h4
    injection h4 with h4
    rw [h4] at h3
    have h7 := h3.int_eq
    have h8 : j < cv.size := by omega
    rw [Array.getElem?_eq_getElem h8]
    rw [Array.getElem_toList] at h7
    rw [h7]
  have hH : HoldsK enc 3 w b 0 ks.toArray := fun j hj => by
    have hj' : j < ks.length * 3 := by simpa using hj
    refine ⟨?_, hfl _⟩
    rw [Nat.zero_add, cells_cell hh, hget j hj', flat_at hj']
    rfl
  have hcall := AnyQ.slices_SortFunc_total (P := Try.prog) Try.sortL 3 Try.isAgg25 Try.sizeOf25 enc (fun _ => rfl) (fun x v hv => by simp [enc] at hv; rcases hv with rfl | rfl | rfl <;> rfl) (ordC l) (by rw [ltC_eq]; exact keyC_swo l) 71 #[kv] b 0 c ks.toArray w
    (enters_of Try.func71 (by kernel_rfl) rfl) (fun m os dk hs x y => cmpC_calls S l i1 fo r hf hn hkv aid cs ho hb hne (fun k hk hkb => by
      unfold sortWorldK
      rw [heap_grow_old _ _ (by simp [putRowK]; exact hk)]
      simp [putRowK, putRow, mapBlock, Sort.ahead, Array.getElem?_modify, Ne.symm hkb]) x y) hH hbl (by simp; omega) (fun x y => by rw [ltC_eq]; exact keyC_total l x y)
  simp only [ltC_eq] at hcall
  have hcall' : Calls Try.prog 61 _ _ _ := hcall
  simp only [List.size_toArray] at hcall'
  refine hcall'.mono ?_
  rintro e w' ⟨rfl, n, os, rfl⟩
  have hs3 : (srtC l ks).length = ks.length := List.length_mergeSort _
  have hw : (sortWorldK enc 3 w b 0 n (srtC l ks).toArray os).heap[b]? = some (.cells (putCells id 0 (flatK enc 3 (srtC l ks).toArray) cv) t (0, 0)) := by
    unfold sortWorldK
    rw [heap_grow_old _ _ (by simp [putRowK]; exact hbl)]
    simp [putRowK, putRow, mapBlock, Sort.ahead, Array.getElem?_modify, hh, onCells]
  have hother : ∀ k, k < w.heap.size → k ≠ b → (sortWorldK enc 3 w b 0 n (srtC l ks).toArray os).heap[k]? = w.heap[k]? := fun k hk hne => by
    unfold sortWorldK
    rw [heap_grow_old _ _ (by simp [putRowK]; exact hk)]
    simp [putRowK, putRow, mapBlock, Sort.ahead, Array.getElem?_modify, Ne.symm hne]
  refine ⟨.tuple [], _, _, g, rfl, .refl g, .tuple _ _ rfl fun i h => absurd h (by simp), ?_, rfl, rfl⟩
  refine S.turn (b := b) ho (by simp) (by rw [hb]; rfl) (by simp [sortWorldK, grow, putRowK, putRow, mapBlock, Sort.ahead]) rfl rfl rfl hother (fun o v e => by rw [him o] at e; cases e) (fun o v e => by rw [him o] at e; cases e) ?_ (by simp [sortWorldK, grow, putRowK, putRow, mapBlock, Sort.ahead])
  rw [hb]
  refine ⟨hbase, ⟨_, t, hw, ?_⟩, him⟩
  refine ⟨by rw [List.length_append, flc_len, List.length_drop, hs3]; simp [putCells, hsz]; omega, fun i h1 h2 => ?_⟩
  have hi : i < c * 3 := by simpa [putCells, hsz] using h2
  simp only [putCells, Array.toList_mapIdx, List.getElem_mapIdx, Array.getElem_toList]
  by_cases hlt : i < ks.length * 3
  · rw [if_pos ⟨Nat.zero_le _, by simpa [hs3] using hlt⟩]
    have e1 : ((srtC l ks).flatMap Iid.c ++ cs.drop (ks.length * 3))[i]? = some (iv (cz (srtC l ks)[i / 3]! (i % 3))) := by
      rw [List.getElem?_append_left (by rw [flc_len, hs3]; exact hlt), flc_some (by rw [hs3]; exact hlt)]
    rw [List.getElem?_eq_getElem h1] at e1
    injection e1 with e1
    rw [e1, Nat.sub_zero, flat_at (by rw [hs3]; exact hlt)]
    exact .int _ _
  · rw [if_neg (by simp [hs3]; omega)]
    have e1 : ((srtC l ks).flatMap Iid.c ++ cs.drop (ks.length * 3))[i]? = cs[i]? := by
      rw [List.getElem?_append_right (by rw [flc_len, hs3]; omega), flc_len, hs3, List.getElem?_drop]
      congr 1; omega
    have h4 : i < cs.length := by omega
    rw [List.getElem?_eq_getElem h1, List.getElem?_eq_getElem h4] at e1
    injection e1 with e1
    rw [e1]
    have := hrel.2 i h4 (by simp; omega)
    simpa using this
end Go.Proofs.Ytajgeofhlgoifaa.G

/- Graphs: a group is taken from the stack. -/
set_option linter.unusedVariables false
set_option linter.unusedSimpArgs false
set_option maxRecDepth 20000
namespace Go.Proofs.Ytajgeofhlgoifaa.G
open Go Go.Proofs.Ytajgeofhlgoifaa.V Go.Proofs.Ytajgeofhlgoifaa.I Go.Sort Go.RowKit
theorem over_take1 {cs : List AV} {n : Nat} {a : AV} (hn : n + 1 ≤ cs.length) : (V.over cs n [a]).take (n + 1) = cs.take n ++ [a] := by
  unfold V.over
  rw [List.take_append_of_le_length (by simp; omega), List.take_of_length_le (by simp; omega)]
theorem zero_mark (g : Ghost) (w : World) : ∃ v, (zeroValue 64).run Try.prog w = .ok v w ∧ VRel g .nilptr v := ⟨.pointer none, Try.zeroValue64 w, .nilptr⟩
section
variable {H H' : AHeap} {l : List Nod} {dn : List Iid} {i1 i2 i3 fo : Nat} {sv gv sv' gv' : AV} {mid : Iid → Nat} {vis : List Iid} {low low' : Iid → Nat} {stk stk' : List Iid} {grs grs' : List (List Iid)}
/-- The search goes on: its stack, its groups and its marks turn. -/
theorem FS.upd (F : FS H l dn i1 i2 i3 fo sv gv mid vis low stk grs) (hl : H.length ≤ H'.length) (hsv : blk sv' = blk sv) (e3 : H'[fo]? = some (.cells [.map i1, .map i2, .map i3, sv', gv'])) (e4 : StkAt H' sv' stk') (e5 : GrsAt H' gv' grs')
    (e6 : blk gv' = blk gv ∨ ∃ b, H.length ≤ b ∧ blk gv' = [b]) (e7 : ∀ x ∈ vis, H'[mid x]? = some (.cells [iv (vis.idxOf x : Nat), iv (low' x : Nat), .bool (decide (x ∈ stk'))]))
    (e8 : ∀ id, id < H.length → id ≠ fo → id ∉ blk sv → id ∉ blk gv → id ∉ vis.map mid → H'[id]? = H[id]?) :
    FS H' l dn i1 i2 i3 fo sv' gv' mid vis low' stk' grs' ∧ Kp H H' (own i3 fo sv gv mid vis) (own i3 fo sv' gv' mid vis) := by
  obtain ⟨p, hp, w1, w2, w3⟩ := F.mks
  have hown := F.own_lt
  obtain ⟨n1, n2⟩ := F.i12_not
  have n3 := F.i3_not
  have hnd := F.nd
  simp only [own, List.mem_cons, List.mem_append, not_or] at n1 n2 n3
  refine ⟨⟨?_, ?_, e3, e4, e5, ⟨p, ?_, w1, w2, w3⟩, e7, ?_, F.i31, F.i32⟩, hl, fun id h1 h2 => ?_, fun id h1 h2 => ?_⟩
  · rw [e8 i1 (get_lt F.nodes) n1.2.1 n1.2.2.1.1 n1.2.2.1.2 n1.2.2.2]; exact F.nodes
  · rw [e8 i2 (get_lt F.done) n2.2.1 n2.2.2.1.1 n2.2.2.1.2 n2.2.2.2]; exact F.done
  · rw [e8 i3 (get_lt hp) n3.1 n3.2.1.1 n3.2.1.2 n3.2.2]; exact hp
  · rcases e6 with e | ⟨b, hb, e⟩
    · rw [hsv, e]; exact hnd
    · rw [hsv, e]
      have hlt : ∀ id ∈ fo :: (blk sv ++ blk gv ++ vis.map mid), id ≠ b := fun id hid e => by
        have := hown id (by simp only [own, List.mem_cons] at hid ⊢; exact .inr hid)
        omega
      rw [List.nodup_cons, List.nodup_append, List.nodup_append] at hnd ⊢
      obtain ⟨d1, ⟨d2, d3, d4⟩, d5, d6⟩ := hnd
      simp only [List.mem_append, not_or] at d1
      refine ⟨?_, ⟨d2, by simp, fun a ha c hc e2 => ?_⟩, d5, fun a ha c hc e2 => ?_⟩
      · simp only [List.mem_append, not_or, List.mem_singleton]
        exact ⟨⟨d1.1.1, hlt fo (by simp)⟩, d1.2⟩
      · simp at hc; exact hlt a (by simp [ha]) (e2.trans hc)
      · subst e2
        rcases List.mem_append.1 ha with h | h
        · exact d6 a (List.mem_append.2 (.inl h)) a hc rfl
        · simp at h; exact hlt a (by simp only [List.mem_cons, List.mem_append]; exact .inr (.inr hc)) h
  · simp only [own, List.mem_cons, List.mem_append, not_or] at h2
    exact e8 id h1 h2.2.1 h2.2.2.1.1 h2.2.2.1.2 h2.2.2.2
  · simp only [own, List.mem_cons, List.mem_append, hsv] at h1 ⊢
    rcases h1 with h | h | (h | h) | h
    · exact .inl h
    · exact .inr (.inl h)
    · exact .inr (.inr (.inl (.inl h)))
    · rcases e6 with e | ⟨b, hb, e⟩
      · rw [e] at h; exact .inr (.inr (.inl (.inr h)))
      · rw [e] at h; simp at h; omega
    · exact .inr (.inr (.inr h))
end
theorem set_mid3 {A B : AHeap} {a b c d : AObj} : (A ++ a :: b :: c :: B).set (A.length + 2) d = A ++ a :: b :: d :: B := by
  rw [List.set_append_right _ _ (by omega)]
  simp
theorem idx_mid {S1 S2 : List Iid} {x : Iid} (h : x ∉ S1) : idxI x (S1 ++ x :: S2) = (S1.length : Nat) := by
  unfold idxI
  rw [if_pos (by simp), List.idxOf_append, if_neg h]
  simp
theorem close_ok {H : AHeap} {l : List Nod} {dn : List Iid} {i1 i2 i3 fo : Nat} {sv gv : AV} {mid : Iid → Nat} {vis : List Iid} {low : Iid → Nat} {S1 S2 : List Iid} {x : Iid} {grs : List (List Iid)} (F : FS H l dn i1 i2 i3 fo sv gv mid vis low (S1 ++ x :: S2) grs)
    (hnd : (S1 ++ x :: S2).Nodup) (hsub : ∀ y ∈ S1 ++ x :: S2, y ∈ vis) (hl : (S1 ++ x :: S2).length ≤ 100000) (hlg : grs.length ≤ 100000) :
    ACalls Try.prog 53 [.ptr fo 0, Iid.av x] H fun r H' => r = .tuple [] ∧ ∃ sv' gv', FS H' l dn i1 i2 i3 fo sv' gv' mid vis low S1 (grs ++ [srtC l (x :: S2)]) ∧ Kp H H' (own i3 fo sv gv mid vis) (own i3 fo sv' gv' mid vis) := by
  rcases F.st with ⟨h0, _⟩ | ⟨sb, c, cs, rfl, g1, g2, g3, g4, g5⟩
  · simp at h0
  have hx1 : x ∉ S1 := fun h => by
    rw [List.nodup_append] at hnd
    exact hnd.2.2 x h x (by simp) rfl
  have hfo := F.obj
  have hfol := get_lt hfo
  have hsl := get_lt g1
  have hfo2 : ∀ Y : AHeap, (H ++ Y)[fo]? = some (.cells [.map i1, .map i2, .map i3, .arr sb 0 (S1 ++ x :: S2).length c, gv]) := fun Y => by rw [List.getElem?_append_left hfol]; exact hfo
  have hsb2 : ∀ Y : AHeap, (H ++ Y)[sb]? = some (.cells cs) := fun Y => by rw [List.getElem?_append_left hsl]; exact g1
  have hix := idx_mid (S2 := S2) hx1
  have hn : (S1 ++ x :: S2).length = S1.length + (x :: S2).length := by simp
  have hpos : 0 < (x :: S2).length := by simp
  have hcall := fun Y => gindex_ok (S1 ++ x :: S2) x sb c cs (H ++ Y) (by omega) (hsb2 Y) (by omega) g5
  rw [hix] at hcall
  have hfm : (x :: S2).flatMap Iid.c = (cs.drop (S1.length * 3)).take ((x :: S2).length * 3) := by
    have h1 : (cs.take ((S1 ++ x :: S2).length * 3)).drop (S1.length * 3) = (x :: S2).flatMap Iid.c := by
      rw [g5, List.flatMap_append, List.drop_left' (flc_len _)]
    rw [← h1, List.drop_take, hn]
    congr 1; omega
  have hcl := fun Y => gclone_arr (x :: S2) sb (S1.length * 3) ((S1 ++ x :: S2).length - S1.length) (c - S1.length) cs (H ++ Y) (hsb2 Y) (by omega) (by omega) (by omega) (by omega) (by rw [hn, Nat.add_sub_cancel_left]; exact hfm)
  generalize hN : (S1 ++ x :: S2).length = N at *
  generalize hM : (x :: S2).length = M at *
  unfold Iid.av Iid.c at hcall ⊢
  refine acalls_of_awp Try.func53 rfl (by simp only [List.length_cons, List.length_nil]; decide) ?_
  simp only [params_cons, params_nil]
  refine awp_seq ?_
  refine zg ?_
  refine goes_done ?_
  (try simp only [vq, if_true, reduceIte, Nat.reduceEqDiff, reduceCtorEq])
  refine awp_hard (id := H.length) (by simp -implicitDefEqProofs; rfl) ?_
  simp -implicitDefEqProofs only [Slots.melt, AV.melt, Nat.add_left_cancel_iff, Nat.add_eq_left, Nat.left_eq_add, Nat.reduceEqDiff, reduceIte, Nat.succ_ne_self, Nat.one_ne_zero, Nat.zero_ne_one, List.set_append_right, List.set_append_left, Nat.sub_self, Nat.le_refl, Nat.add_sub_cancel_left, Nat.le_add_right, List.set_cons_zero, List.set_cons_succ]
  refine awp_hard (id := H.length + 1) (by simp -implicitDefEqProofs; rfl) ?_
  simp -implicitDefEqProofs only [Slots.melt, AV.melt, Nat.add_left_cancel_iff, Nat.add_eq_left, Nat.left_eq_add, Nat.reduceEqDiff, reduceIte, Nat.succ_ne_self, Nat.one_ne_zero, Nat.zero_ne_one, List.set_append_right, List.set_append_left, Nat.sub_self, Nat.le_refl, Nat.add_sub_cancel_left, Nat.le_add_right, List.set_cons_zero, List.set_cons_succ]
  refine awp_seq ?_
  refine awp_draw (.q 0 (.q 1 (.q 2 (.q 4 (.a 3 (.a 5 (.q 6 (.done)))))))) (by kernel_rfl) (by kernel_rfl) (tree_start (goesT_eq (by simp -implicitDefEqProofs (disch := (first | omega | (simp; done) | fail)) [if_pos, if_neg, wrap_i64, tmod_pos, tdiv_pos, Int.toNat_add, hfo2]; rfl) ?_))
  refine zP (callable_of Try.func70) _ (hcall _) ?_
  rintro _ _ ⟨rfl, rfl⟩
  refine zE ?_
  refine goesT_done ?_
  (try simp only [vq, if_true, reduceIte, Nat.reduceEqDiff, reduceCtorEq])
  have q1 : (S1.length : Int) ≤ (N : Int) := by omega
  have q2 : (N : Int) ≤ (c : Int) := by omega
  repeat (first | ((first | refine zd ?_ | refine zx ?_ | refine zk ?_ | refine zl ?_ | refine zr ?_); refine zq ?_) | refine zs ?_ | refine zh (by simp -implicitDefEqProofs (disch := (first | omega | (simp; done) | fail)) [if_pos, if_neg, wrap_i64, tmod_pos, tdiv_pos, Int.toNat_add, hfo2, q1, q2]; rfl) ?_ | refine zb ?_ | refine zo ?_ | refine zt ?_ | refine zf ?_)
  refine zp (callable_of Try.func63) _ (hcl _) ?_
  rintro _ _ ⟨cg, ug, e1, e2, rfl, rfl⟩
  simp only [List.append_assoc, List.cons_append, List.nil_append, List.length_append, List.length_cons, List.length_nil, Nat.zero_add, Nat.reduceAdd]
  refine ze ?_
  refine goes_done ?_
  simp only [vq, if_true, reduceIte, Nat.reduceEqDiff, reduceCtorEq]
  refine awp_seq ?_
  refine awp_draw (.q 0 (.q 1 (.q 2 (.q 3 (.q 5 (.a 4 (.q 6 (.q 7 (.q 8 (.a 9 (.done))))))))))) (by kernel_rfl) (by kernel_rfl) (tree_start (goesT_eq (by simp -implicitDefEqProofs (disch := (first | omega | (simp; done) | fail)) [if_pos, if_neg, wrap_i64, tmod_pos, tdiv_pos, Int.toNat_add, hfo2, q1, q2]; rfl) ?_))
  refine goesT_done ?_
  (try simp only [vq, if_true, reduceIte, Nat.reduceEqDiff, reduceCtorEq])
  have hne : ∀ id, id ∈ fo :: (blk (.arr sb 0 N c) ++ blk gv ++ vis.map mid) → id ≠ i3 := fun id h e => F.i3_not (e ▸ h)
  have hk1 : (H.set fo (.cells [.map i1, .map i2, .map i3, .arr sb 0 S1.length c, gv]))[fo]? = some (.cells [.map i1, .map i2, .map i3, .arr sb 0 S1.length c, gv]) := List.getElem?_set_self hfol
  have hk2 : ∀ id, id ≠ fo → (H.set fo (.cells [.map i1, .map i2, .map i3, .arr sb 0 S1.length c, gv]))[id]? = H[id]? := fun id h => List.getElem?_set_ne (Ne.symm h)
  have hk3 : (H.set fo (.cells [.map i1, .map i2, .map i3, .arr sb 0 S1.length c, gv])).length = H.length := List.length_set
  generalize H.set fo (.cells [.map i1, .map i2, .map i3, .arr sb 0 S1.length c, gv]) = H1 at *
  have hgc : x.c ++ (S2.flatMap Iid.c ++ ug) = (x :: S2).flatMap Iid.c ++ ug := by simp
  rw [hgc]
  have hgl : ((x :: S2).flatMap Iid.c ++ ug).length = cg * 3 := by rw [List.length_append, flc_len, hM, e2]; omega
  have hgt : ((x :: S2).flatMap Iid.c ++ ug).take ((x :: S2).length * 3) = (x :: S2).flatMap Iid.c := List.take_left' (flc_len _)
  have hgp := fun i (hi : i < (x :: S2).length) => part3 (cs := (x :: S2).flatMap Iid.c ++ ug) hgt hi (by rw [hgl, hM]; omega)
  generalize (x :: S2).flatMap Iid.c ++ ug = gc at *
  have hmi : ∀ y ∈ vis, mid y ≠ fo ∧ mid y < H.length := fun y hy => by
    refine ⟨fun e => ?_, get_lt (F.mrk y hy)⟩
    have h1 := F.nd
    rw [List.nodup_cons] at h1
    exact h1.1 (by rw [← e]; exact List.mem_append.2 (.inr (List.mem_map.2 ⟨y, hy, rfl⟩)))
  have hmj : ∀ y ∈ vis, ∀ z ∈ vis, mid y = mid z → y = z := fun y hy z hz e => by
    have h1 := F.mrk y hy
    rw [e, F.mrk z hz] at h1
    simp at h1
    exact (Tar.idx_inj hy (by omega))
  have hu := Try.underlying60
  obtain ⟨p, hp, hwf, hpl, hpg⟩ := F.mks
  have hi3 : i3 ≠ fo := fun e => hne fo (by simp) e.symm
  have hi3m : ∀ y ∈ vis, mid y ≠ i3 := fun y hy => hne _ (by simp only [List.mem_cons, List.mem_append]; exact .inr (.inr (List.mem_map.2 ⟨y, hy, rfl⟩)))
  refine awp_seq ?_
  refine awp_seq ?_
  refine zg ?_
  refine goes_done ?_
  (try simp only [vq, if_true, reduceIte, Nat.reduceEqDiff, reduceCtorEq])
  refine awp_block ?_
  refine awp_loop (fun z st => ∃ (i : Nat) (HH X : AHeap), z = M - i ∧ i ≤ M ∧ HH.length = H.length ∧ HH[fo]? = some (.cells [.map i1, .map i2, .map i3, .arr sb 0 S1.length c, gv]) ∧ (∀ y ∈ vis, HH[mid y]? = some (.cells [iv (vis.idxOf y : Nat), iv (low y : Nat), .bool (decide (y ∈ S1 ++ x :: S2 ∧ y ∉ (x :: S2).take i))])) ∧ (∀ id, id ∉ fo :: vis.map mid → HH[id]? = H[id]?) ∧ st.le ⟨Try.f53.ntmps, [(2, .ref [.ptr fo 0] 0), (5, .arr (H.length + 2) 0 M cg), (30, .arr (H.length + 2) 0 M cg), (31, iv (M : Nat)), (32, iv (i : Nat))], HH ++ (.dead :: .dead :: .cells gc :: X)⟩) M ?_ ?_
  rotate_left
  rintro z st ⟨i, HH, X, rfl, hi, hh1, hh2, hh3, hh4, hle⟩
  · refine awp_le hle ?_
    clear hle
    rw [← hh1]
    by_cases h9 : i = M
    · obtain rfl := h9.symm
      have q : ¬ (M : Int) < (M : Int) := by omega
      repeat (first | ((first | refine zd ?_ | refine zx ?_ | refine zk ?_ | refine zl ?_ | refine zr ?_); refine zq ?_) | refine zs ?_ | refine zh (by simp -implicitDefEqProofs (disch := (first | omega | (simp; done) | fail)) [if_pos, if_neg, wrap_i64, tmod_pos, tdiv_pos, Int.toNat_add, q]; rfl) ?_ | refine zb ?_ | refine zo ?_ | refine zt ?_ | refine zf ?_)
      obtain ⟨n1, n2⟩ := F.i12_not
      have hi1 : i1 ∉ fo :: vis.map mid := fun h => n1 (by
        simp only [own, List.mem_cons, List.mem_append] at h ⊢
        rcases h with h | h
        · exact .inr (.inl h)
        · exact .inr (.inr (.inr h)))
      have hcs := gsortC_arr l i1 fo [.map i2, .map i3, .arr sb 0 S1.length c, gv] (x :: S2) (HH.length + 2) cg gc (HH ++ (.dead :: .dead :: .cells gc :: X)) (by rw [List.getElem?_append_left (by omega)]; exact hh2)
        (by rw [List.getElem?_append_left (by rw [hh1]; exact get_lt F.nodes), hh4 _ hi1]; exact F.nodes) (by omega) (by omega) (by rw [List.getElem?_append_right (by omega)]; simp) hgl (by omega) hgt
      rw [hM, set_mid3] at hcs
      refine zp (callable_of Try.func61) _ hcs ?_
      rintro _ _ ⟨rfl, rfl⟩
      refine ze ?_
      refine goes_done ?_
      simp only [vq, if_true, reduceIte, Nat.reduceEqDiff, reduceCtorEq]
      have hsl2 : (srtC l (x :: S2)).length = M := by unfold srtC; rw [List.length_mergeSort, hM]
      refine awp_fixs (id := HH.length + 2) (n := M) (c := cg) (k := 3) (cs := (srtC l (x :: S2)).flatMap Iid.c ++ gc.drop (M * 3)) (xs := (srtC l (x :: S2)).map Iid.av) (by rw [List.getElem?_append_right (by omega)]; simp) ?_ (by simp [hsl2]) (uni_map fun _ => rfl) (by omega) ?_ ?_
      · rw [flc_cells, List.take_left' (by rw [flc_len, hsl2])]
      · rw [List.length_append, flc_len, hsl2]; omega
      rw [set_mid3]
      simp only [Slots.thaw, AV.thaw, and_self, if_true]
      generalize hg : srtC l (x :: S2) = g at *
      have hfo5 : ∀ Y : AHeap, (HH ++ Y)[fo]? = some (.cells [.map i1, .map i2, .map i3, .arr sb 0 S1.length c, gv]) := fun Y => by rw [List.getElem?_append_left (get_lt hh2)]; exact hh2
      refine awp_drawS (graft (.a 7 (.q 8 (.q 9 (.a 10 .done)))) (.q 0 (.q 1 (.q 2 (.q 3 (.q 5 (.two 4 6 (.a 6 .done) (.a 4 .done)))))))) (by kernel_rfl) (by kernel_rfl) (tree_graft (tree_start (goesT_eq (by simp -implicitDefEqProofs (disch := (first | omega | (simp; done) | fail)) [if_pos, if_neg, hfo5]; rfl) ?_)))
      obtain ⟨b1, b2⟩ := nbg (n := grs.length + 1) (by omega)
      have hndF := F.nd
      simp only [blk, List.nodup_cons, List.mem_append, List.mem_singleton, not_or, List.nodup_append] at hndF
      obtain ⟨⟨⟨hsf', hgf'⟩, hmf'⟩, ⟨_, _, hsg'⟩, _, hsm'⟩ := hndF
      have hsf : sb ≠ fo := fun e => hsf' e.symm
      have hsbm : sb ∉ fo :: vis.map mid := fun h => by
        rcases List.mem_cons.1 h with h | h
        · exact hsf h
        · exact hsm' sb (.inl rfl) sb h rfl
      have hsH : HH[sb]? = some (.cells cs) := by rw [hh4 _ hsbm]; exact g1
      have hS1 : cs.take (S1.length * 3) = S1.flatMap Iid.c := by
        have h1 : (cs.take (N * 3)).take (S1.length * 3) = S1.flatMap Iid.c := by rw [g5, List.flatMap_append, List.take_left' (flc_len _)]
        rw [← h1, List.take_take]; congr 1; omega
      have hms : ∀ y ∈ vis, HH[mid y]? = some (.cells [iv (vis.idxOf y : Nat), iv (low y : Nat), .bool (decide (y ∈ S1))]) := fun y hy => by
        rw [hh3 y hy]
        have : (y ∈ S1 ++ x :: S2 ∧ y ∉ (x :: S2).take M) ↔ y ∈ S1 := by
          rw [List.take_of_length_le (by omega), List.mem_append]
          refine ⟨fun h => h.1.resolve_right h.2, fun h => ⟨.inl h, fun h2 => ?_⟩⟩
          rw [List.nodup_append] at hnd
          exact hnd.2.2 y h y h2 rfl
        simp only [this]
      rcases F.gr with ⟨rfl, rfl⟩ | ⟨gb, c2, cs2, rfl, r1, r2, r3, r4, r5⟩
      · refine goesT_two (goesT_eq (by simp -implicitDefEqProofs (disch := (first | omega | (simp; done) | fail)) [if_pos, if_neg, wrap_i64, tmod_pos, tdiv_pos, Int.toNat_add, hfo5]; rfl) ?_) (goesT_eq (by simp -implicitDefEqProofs (disch := (first | omega | (simp; done) | fail)) [if_pos, if_neg, wrap_i64, tmod_pos, tdiv_pos, Int.toNat_add, hfo5]; rfl) ?_)
        · refine goesT_done ?_
          refine aats_append (k := 1) (by_ := 24) (m := 0) (c := 0) (cs := []) (zc := [.list [] .full]) (z := .list (g.map Iid.av) .no) rfl rfl (by rfl) (by simp; rfl) (by simp) (by simp) (by simp) rfl (by decide) rfl (by simp) .nil (by simp) b1 b2 ?_
          refine ⟨fun hroom => absurd hroom (by omega), fun hfull c' u hc' hu => ?_⟩
          simp only [List.length_append, List.length_cons, Nat.zero_add, AV.cells, List.append_assoc, List.cons_append, List.nil_append, hh1, Nat.reduceMul, Nat.mul_one]
          refine tree_s (tree_start (goesT_eq (by simp -implicitDefEqProofs (disch := (first | omega | (simp; done) | fail)) [if_pos, if_neg, hfo5]; rfl) ?_))
          refine goesT_done ?_
          (try simp only [vq, if_true, reduceIte, Nat.reduceEqDiff, reduceCtorEq])
          have k1 : (HH.set fo (.cells [.map i1, .map i2, .map i3, .arr sb 0 S1.length c, (.arr (H.length + (X.length + 1 + 1 + 1)) 0 (0 + 1) c')]))[fo]? = some (.cells [.map i1, .map i2, .map i3, .arr sb 0 S1.length c, (.arr (H.length + (X.length + 1 + 1 + 1)) 0 (0 + 1) c')]) := List.getElem?_set_self (by omega)
          have k2 : ∀ id, id ≠ fo → (HH.set fo (.cells [.map i1, .map i2, .map i3, .arr sb 0 S1.length c, (.arr (H.length + (X.length + 1 + 1 + 1)) 0 (0 + 1) c')]))[id]? = HH[id]? := fun id h => List.getElem?_set_ne (Ne.symm h)
          have k3 : (HH.set fo (.cells [.map i1, .map i2, .map i3, .arr sb 0 S1.length c, (.arr (H.length + (X.length + 1 + 1 + 1)) 0 (0 + 1) c')])).length = H.length := by rw [List.length_set, hh1]
          generalize HH.set fo (.cells [.map i1, .map i2, .map i3, .arr sb 0 S1.length c, (.arr (H.length + (X.length + 1 + 1 + 1)) 0 (0 + 1) c')]) = H3 at *
          repeat (first | ((first | refine zd ?_ | refine zx ?_ | refine zk ?_ | refine zl ?_ | refine zr ?_); refine zq ?_) | refine zs ?_ | refine zg ?_ | refine zb ?_ | refine zo ?_ | refine zt ?_ | refine zf ?_)
          first | refine body_all (.inr rfl) (by simp -implicitDefEqProofs; rfl) (by simp -implicitDefEqProofs; rfl) (by first | (simp; done) | (simp; omega) | omega) ?_ | refine body_all (.inl rfl) (by simp -implicitDefEqProofs; rfl) (by simp -implicitDefEqProofs; rfl) (by first | (simp; done) | (simp; omega) | omega) ?_
          refine ⟨rfl, .arr sb 0 S1.length c, (.arr (H.length + (X.length + 1 + 1 + 1)) 0 (0 + 1) c'), ?_⟩
          have k4 : ∀ id, id < H.length → ∀ Y : AHeap, (H3 ++ Y)[id]? = H3[id]? := fun id h Y => List.getElem?_append_left (by omega)
          refine F.upd (sv' := .arr sb 0 S1.length c) (gv' := (.arr (H.length + (X.length + 1 + 1 + 1)) 0 (0 + 1) c')) (low' := low) (by simp only [List.length_append, k3]; omega) rfl (by rw [k4 _ hfol]; exact k1) ?_ ?_ (.inr ⟨_, Nat.le_add_right _ _, rfl⟩) (fun y hy => ?_) (fun id u1 u2 u3 u4 u5 => ?_)
          · exact .inr ⟨sb, c, cs, rfl, by rw [k4 _ hsl, k2 _ hsf, (rfl : HH[sb]? = HH[sb]?)]; exact hsH, g2, by omega, g4, hS1⟩
          · refine .inr ⟨H.length + (X.length + 1 + 1 + 1), c', [] ++ .list (g.map Iid.av) .no :: u, by simp, by rw [List.getElem?_append_right (by omega), k3, Nat.add_sub_cancel_left]; simp, ?_, by simpa using hc', by omega, ?_⟩
            · simp [hu]; omega
            · simp [lv]
          · rw [k4 _ (hmi y hy).2, k2 _ (hmi y hy).1]; exact hms y hy
          · rw [k4 id u1, k2 id u2, hh4 id (fun h => (List.mem_cons.1 h).elim u2 u5)]
        · refine goesT_done ?_
          refine aats_append (k := 1) (by_ := 24) (m := 0) (c := 0) (cs := []) (zc := [.list [] .full]) (z := .list (g.map Iid.av) .no) rfl rfl (by rfl) (by simp; rfl) (by simp) (by simp) (by simp) rfl (by decide) rfl (by simp) .nil (by simp) b1 b2 ?_
          refine ⟨fun hroom => absurd hroom (by omega), fun hfull c' u hc' hu => ?_⟩
          simp only [List.length_append, List.length_cons, Nat.zero_add, AV.cells, List.append_assoc, List.cons_append, List.nil_append, hh1, Nat.reduceMul, Nat.mul_one]
          refine tree_s (tree_start (goesT_eq (by simp -implicitDefEqProofs (disch := (first | omega | (simp; done) | fail)) [if_pos, if_neg, hfo5]; rfl) ?_))
          refine goesT_done ?_
          (try simp only [vq, if_true, reduceIte, Nat.reduceEqDiff, reduceCtorEq])
          have k1 : (HH.set fo (.cells [.map i1, .map i2, .map i3, .arr sb 0 S1.length c, (.arr (H.length + (X.length + 1 + 1 + 1)) 0 (0 + 1) c')]))[fo]? = some (.cells [.map i1, .map i2, .map i3, .arr sb 0 S1.length c, (.arr (H.length + (X.length + 1 + 1 + 1)) 0 (0 + 1) c')]) := List.getElem?_set_self (by omega)
          have k2 : ∀ id, id ≠ fo → (HH.set fo (.cells [.map i1, .map i2, .map i3, .arr sb 0 S1.length c, (.arr (H.length + (X.length + 1 + 1 + 1)) 0 (0 + 1) c')]))[id]? = HH[id]? := fun id h => List.getElem?_set_ne (Ne.symm h)
          have k3 : (HH.set fo (.cells [.map i1, .map i2, .map i3, .arr sb 0 S1.length c, (.arr (H.length + (X.length + 1 + 1 + 1)) 0 (0 + 1) c')])).length = H.length := by rw [List.length_set, hh1]
          generalize HH.set fo (.cells [.map i1, .map i2, .map i3, .arr sb 0 S1.length c, (.arr (H.length + (X.length + 1 + 1 + 1)) 0 (0 + 1) c')]) = H3 at *
          repeat (first | ((first | refine zd ?_ | refine zx ?_ | refine zk ?_ | refine zl ?_ | refine zr ?_); refine zq ?_) | refine zs ?_ | refine zg ?_ | refine zb ?_ | refine zo ?_ | refine zt ?_ | refine zf ?_)
          first | refine body_all (.inr rfl) (by simp -implicitDefEqProofs; rfl) (by simp -implicitDefEqProofs; rfl) (by first | (simp; done) | (simp; omega) | omega) ?_ | refine body_all (.inl rfl) (by simp -implicitDefEqProofs; rfl) (by simp -implicitDefEqProofs; rfl) (by first | (simp; done) | (simp; omega) | omega) ?_
          refine ⟨rfl, .arr sb 0 S1.length c, (.arr (H.length + (X.length + 1 + 1 + 1)) 0 (0 + 1) c'), ?_⟩
          have k4 : ∀ id, id < H.length → ∀ Y : AHeap, (H3 ++ Y)[id]? = H3[id]? := fun id h Y => List.getElem?_append_left (by omega)
          refine F.upd (sv' := .arr sb 0 S1.length c) (gv' := (.arr (H.length + (X.length + 1 + 1 + 1)) 0 (0 + 1) c')) (low' := low) (by simp only [List.length_append, k3]; omega) rfl (by rw [k4 _ hfol]; exact k1) ?_ ?_ (.inr ⟨_, Nat.le_add_right _ _, rfl⟩) (fun y hy => ?_) (fun id u1 u2 u3 u4 u5 => ?_)
          · exact .inr ⟨sb, c, cs, rfl, by rw [k4 _ hsl, k2 _ hsf, (rfl : HH[sb]? = HH[sb]?)]; exact hsH, g2, by omega, g4, hS1⟩
          · refine .inr ⟨H.length + (X.length + 1 + 1 + 1), c', [] ++ .list (g.map Iid.av) .no :: u, by simp, by rw [List.getElem?_append_right (by omega), k3, Nat.add_sub_cancel_left]; simp, ?_, by simpa using hc', by omega, ?_⟩
            · simp [hu]; omega
            · simp [lv]
          · rw [k4 _ (hmi y hy).2, k2 _ (hmi y hy).1]; exact hms y hy
          · rw [k4 id u1, k2 id u2, hh4 id (fun h => (List.mem_cons.1 h).elim u2 u5)]
      · have hgbm : gb ∉ fo :: vis.map mid := fun h => by
          rcases List.mem_cons.1 h with h | h
          · exact hgf' (by simp [blk, h])
          · exact hsm' gb (.inr (by simp [blk])) gb h rfl
        have hgH : HH[gb]? = some (.cells cs2) := by rw [hh4 _ hgbm]; exact r1
        have hgl2 := get_lt hgH
        have hgs : sb ≠ gb := hsg' sb rfl gb (by simp [blk])
        have hgf : gb ≠ fo := fun h => hgbm (by simp [h])
        refine goesT_two (goesT_eq (by simp -implicitDefEqProofs (disch := (first | omega | (simp; done) | fail)) [if_pos, if_neg, wrap_i64, tmod_pos, tdiv_pos, Int.toNat_add, hfo5]; rfl) ?_) (goesT_eq (by simp -implicitDefEqProofs (disch := (first | omega | (simp; done) | fail)) [if_pos, if_neg, wrap_i64, tmod_pos, tdiv_pos, Int.toNat_add, hfo5]; rfl) ?_)
        · refine goesT_done ?_
          refine aats_append (k := 1) (by_ := 24) (m := grs.length) (c := c2) (cs := cs2) (zc := [.list [] .full]) (z := .list (g.map Iid.av) .no) rfl rfl (by rfl) (by simp; rfl) (by simp) (by simp) (by simp) rfl (by decide) rfl (by simp) (.arr _ _ _ _ (by rw [List.getElem?_append_left hgl2]; exact hgH) (by omega) r3 r4) (by simp) b1 b2 ?_
          refine ⟨fun hroom id' hid => ?_, fun hfull c' u hc' hu => ?_⟩
          · injection hid with hid
            subst hid
            rw [List.set_append_left _ _ hgl2]
            simp only [AV.cells, Nat.mul_one]
            have h2gb : (HH.set gb (.cells (V.over cs2 grs.length [.list (g.map Iid.av) .no])))[gb]? = some (.cells (V.over cs2 grs.length [.list (g.map Iid.av) .no])) := List.getElem?_set_self hgl2
            have h2o : ∀ id, id ≠ gb → (HH.set gb (.cells (V.over cs2 grs.length [.list (g.map Iid.av) .no])))[id]? = HH[id]? := fun id h => List.getElem?_set_ne (Ne.symm h)
            have h2l : (HH.set gb (.cells (V.over cs2 grs.length [.list (g.map Iid.av) .no]))).length = H.length := by rw [List.length_set, hh1]
            generalize HH.set gb (.cells (V.over cs2 grs.length [.list (g.map Iid.av) .no])) = H2 at *
            have hfo6 : ∀ Y : AHeap, (H2 ++ Y)[fo]? = some (.cells [.map i1, .map i2, .map i3, .arr sb 0 S1.length c, .arr gb 0 grs.length c2]) := fun Y => by rw [List.getElem?_append_left (by omega), h2o _ (Ne.symm hgf)]; exact hh2
            refine tree_s (tree_start (goesT_eq (by simp -implicitDefEqProofs (disch := (first | omega | (simp; done) | fail)) [if_pos, if_neg, hfo6]; rfl) ?_))
            refine goesT_done ?_
            (try simp only [vq, if_true, reduceIte, Nat.reduceEqDiff, reduceCtorEq])
            have k1 : (H2.set fo (.cells [.map i1, .map i2, .map i3, .arr sb 0 S1.length c, (.arr gb 0 (grs.length + 1) c2)]))[fo]? = some (.cells [.map i1, .map i2, .map i3, .arr sb 0 S1.length c, (.arr gb 0 (grs.length + 1) c2)]) := List.getElem?_set_self (by omega)
            have k2 : ∀ id, id ≠ fo → (H2.set fo (.cells [.map i1, .map i2, .map i3, .arr sb 0 S1.length c, (.arr gb 0 (grs.length + 1) c2)]))[id]? = H2[id]? := fun id h => List.getElem?_set_ne (Ne.symm h)
            have k3 : (H2.set fo (.cells [.map i1, .map i2, .map i3, .arr sb 0 S1.length c, (.arr gb 0 (grs.length + 1) c2)])).length = H.length := by rw [List.length_set, h2l]
            generalize H2.set fo (.cells [.map i1, .map i2, .map i3, .arr sb 0 S1.length c, (.arr gb 0 (grs.length + 1) c2)]) = H3 at *
            repeat (first | ((first | refine zd ?_ | refine zx ?_ | refine zk ?_ | refine zl ?_ | refine zr ?_); refine zq ?_) | refine zs ?_ | refine zg ?_ | refine zb ?_ | refine zo ?_ | refine zt ?_ | refine zf ?_)
            first | refine body_all (.inr rfl) (by simp -implicitDefEqProofs; rfl) (by simp -implicitDefEqProofs; rfl) (by first | (simp; done) | (simp; omega) | omega) ?_ | refine body_all (.inl rfl) (by simp -implicitDefEqProofs; rfl) (by simp -implicitDefEqProofs; rfl) (by first | (simp; done) | (simp; omega) | omega) ?_
            refine ⟨rfl, .arr sb 0 S1.length c, (.arr gb 0 (grs.length + 1) c2), ?_⟩
            have k4 : ∀ id, id < H.length → ∀ Y : AHeap, (H3 ++ Y)[id]? = H3[id]? := fun id h Y => List.getElem?_append_left (by omega)
            refine F.upd (sv' := .arr sb 0 S1.length c) (gv' := (.arr gb 0 (grs.length + 1) c2)) (low' := low) (by simp only [List.length_append, k3]; omega) rfl (by rw [k4 _ hfol]; exact k1) ?_ ?_ (.inl rfl) (fun y hy => ?_) (fun id u1 u2 u3 u4 u5 => ?_)
            · exact .inr ⟨sb, c, cs, rfl, by rw [k4 _ hsl, k2 _ hsf, h2o _ hgs]; exact hsH, g2, by omega, g4, hS1⟩
            · refine .inr ⟨gb, c2, _, by simp, by rw [k4 _ (get_lt r1), k2 _ hgf]; exact h2gb, by rw [over_len (by simp; omega)]; exact r2, by simp; omega, r4, ?_⟩
              rw [List.length_append, List.length_singleton, over_take1 (by omega), r5]
              simp [lv]
            · rw [k4 _ (hmi y hy).2, k2 _ (hmi y hy).1, h2o _ (fun h => hgbm (by rw [← h]; exact List.mem_cons.2 (.inr (List.mem_map.2 ⟨y, hy, rfl⟩))))]; exact hms y hy
            · rw [k4 id u1, k2 id u2, h2o id (by simpa [blk] using u4), hh4 id (fun h => (List.mem_cons.1 h).elim u2 u5)]
          · simp only [List.length_append, List.length_cons, Nat.zero_add, AV.cells, List.append_assoc, List.cons_append, List.nil_append, hh1, Nat.reduceMul, Nat.mul_one]
            refine tree_s (tree_start (goesT_eq (by simp -implicitDefEqProofs (disch := (first | omega | (simp; done) | fail)) [if_pos, if_neg, hfo5]; rfl) ?_))
            refine goesT_done ?_
            (try simp only [vq, if_true, reduceIte, Nat.reduceEqDiff, reduceCtorEq])
            have k1 : (HH.set fo (.cells [.map i1, .map i2, .map i3, .arr sb 0 S1.length c, (.arr (H.length + (X.length + 1 + 1 + 1)) 0 (grs.length + 1) c')]))[fo]? = some (.cells [.map i1, .map i2, .map i3, .arr sb 0 S1.length c, (.arr (H.length + (X.length + 1 + 1 + 1)) 0 (grs.length + 1) c')]) := List.getElem?_set_self (by omega)
            have k2 : ∀ id, id ≠ fo → (HH.set fo (.cells [.map i1, .map i2, .map i3, .arr sb 0 S1.length c, (.arr (H.length + (X.length + 1 + 1 + 1)) 0 (grs.length + 1) c')]))[id]? = HH[id]? := fun id h => List.getElem?_set_ne (Ne.symm h)
            have k3 : (HH.set fo (.cells [.map i1, .map i2, .map i3, .arr sb 0 S1.length c, (.arr (H.length + (X.length + 1 + 1 + 1)) 0 (grs.length + 1) c')])).length = H.length := by rw [List.length_set, hh1]
            generalize HH.set fo (.cells [.map i1, .map i2, .map i3, .arr sb 0 S1.length c, (.arr (H.length + (X.length + 1 + 1 + 1)) 0 (grs.length + 1) c')]) = H3 at *
            repeat (first | ((first | refine zd ?_ | refine zx ?_ | refine zk ?_ | refine zl ?_ | refine zr ?_); refine zq ?_) | refine zs ?_ | refine zg ?_ | refine zb ?_ | refine zo ?_ | refine zt ?_ | refine zf ?_)
            first | refine body_all (.inr rfl) (by simp -implicitDefEqProofs; rfl) (by simp -implicitDefEqProofs; rfl) (by first | (simp; done) | (simp; omega) | omega) ?_ | refine body_all (.inl rfl) (by simp -implicitDefEqProofs; rfl) (by simp -implicitDefEqProofs; rfl) (by first | (simp; done) | (simp; omega) | omega) ?_
            refine ⟨rfl, .arr sb 0 S1.length c, (.arr (H.length + (X.length + 1 + 1 + 1)) 0 (grs.length + 1) c'), ?_⟩
            have k4 : ∀ id, id < H.length → ∀ Y : AHeap, (H3 ++ Y)[id]? = H3[id]? := fun id h Y => List.getElem?_append_left (by omega)
            refine F.upd (sv' := .arr sb 0 S1.length c) (gv' := (.arr (H.length + (X.length + 1 + 1 + 1)) 0 (grs.length + 1) c')) (low' := low) (by simp only [List.length_append, k3]; omega) rfl (by rw [k4 _ hfol]; exact k1) ?_ ?_ (.inr ⟨_, Nat.le_add_right _ _, rfl⟩) (fun y hy => ?_) (fun id u1 u2 u3 u4 u5 => ?_)
            · exact .inr ⟨sb, c, cs, rfl, by rw [k4 _ hsl, k2 _ hsf, (rfl : HH[sb]? = HH[sb]?)]; exact hsH, g2, by omega, g4, hS1⟩
            · refine .inr ⟨H.length + (X.length + 1 + 1 + 1), c', cs2 ++ .list (g.map Iid.av) .no :: u, by simp, by rw [List.getElem?_append_right (by omega), k3, Nat.add_sub_cancel_left]; simp, ?_, by simpa using hc', by omega, ?_⟩
              · simp [hu]; omega
              · (have hcs2 : cs2 = grs.map lv := by rw [← r5, List.take_of_length_le (by omega)]); rw [hcs2, show grs.map lv ++ (.list (g.map Iid.av) .no : AV) :: u = (grs ++ [g]).map lv ++ u from by simp [lv], List.take_left' (by simp)]
            · rw [k4 _ (hmi y hy).2, k2 _ (hmi y hy).1]; exact hms y hy
            · rw [k4 id u1, k2 id u2, hh4 id (fun h => (List.mem_cons.1 h).elim u2 u5)]
        · refine goesT_done ?_
          refine aats_append (k := 1) (by_ := 24) (m := grs.length) (c := c2) (cs := cs2) (zc := [.list [] .full]) (z := .list (g.map Iid.av) .no) rfl rfl (by rfl) (by simp; rfl) (by simp) (by simp) (by simp) rfl (by decide) rfl (by simp) (.arr _ _ _ _ (by rw [List.getElem?_append_left hgl2]; exact hgH) (by omega) r3 r4) (by simp) b1 b2 ?_
          refine ⟨fun hroom id' hid => ?_, fun hfull c' u hc' hu => ?_⟩
          · injection hid with hid
            subst hid
            rw [List.set_append_left _ _ hgl2]
            simp only [AV.cells, Nat.mul_one]
            have h2gb : (HH.set gb (.cells (V.over cs2 grs.length [.list (g.map Iid.av) .no])))[gb]? = some (.cells (V.over cs2 grs.length [.list (g.map Iid.av) .no])) := List.getElem?_set_self hgl2
            have h2o : ∀ id, id ≠ gb → (HH.set gb (.cells (V.over cs2 grs.length [.list (g.map Iid.av) .no])))[id]? = HH[id]? := fun id h => List.getElem?_set_ne (Ne.symm h)
            have h2l : (HH.set gb (.cells (V.over cs2 grs.length [.list (g.map Iid.av) .no]))).length = H.length := by rw [List.length_set, hh1]
            generalize HH.set gb (.cells (V.over cs2 grs.length [.list (g.map Iid.av) .no])) = H2 at *
            have hfo6 : ∀ Y : AHeap, (H2 ++ Y)[fo]? = some (.cells [.map i1, .map i2, .map i3, .arr sb 0 S1.length c, .arr gb 0 grs.length c2]) := fun Y => by rw [List.getElem?_append_left (by omega), h2o _ (Ne.symm hgf)]; exact hh2
            refine tree_s (tree_start (goesT_eq (by simp -implicitDefEqProofs (disch := (first | omega | (simp; done) | fail)) [if_pos, if_neg, hfo6]; rfl) ?_))
            refine goesT_done ?_
            (try simp only [vq, if_true, reduceIte, Nat.reduceEqDiff, reduceCtorEq])
            have k1 : (H2.set fo (.cells [.map i1, .map i2, .map i3, .arr sb 0 S1.length c, (.arr gb 0 (grs.length + 1) c2)]))[fo]? = some (.cells [.map i1, .map i2, .map i3, .arr sb 0 S1.length c, (.arr gb 0 (grs.length + 1) c2)]) := List.getElem?_set_self (by omega)
            have k2 : ∀ id, id ≠ fo → (H2.set fo (.cells [.map i1, .map i2, .map i3, .arr sb 0 S1.length c, (.arr gb 0 (grs.length + 1) c2)]))[id]? = H2[id]? := fun id h => List.getElem?_set_ne (Ne.symm h)
            have k3 : (H2.set fo (.cells [.map i1, .map i2, .map i3, .arr sb 0 S1.length c, (.arr gb 0 (grs.length + 1) c2)])).length = H.length := by rw [List.length_set, h2l]
            generalize H2.set fo (.cells [.map i1, .map i2, .map i3, .arr sb 0 S1.length c, (.arr gb 0 (grs.length + 1) c2)]) = H3 at *
            repeat (first | ((first | refine zd ?_ | refine zx ?_ | refine zk ?_ | refine zl ?_ | refine zr ?_); refine zq ?_) | refine zs ?_ | refine zg ?_ | refine zb ?_ | refine zo ?_ | refine zt ?_ | refine zf ?_)
            first | refine body_all (.inr rfl) (by simp -implicitDefEqProofs; rfl) (by simp -implicitDefEqProofs; rfl) (by first | (simp; done) | (simp; omega) | omega) ?_ | refine body_all (.inl rfl) (by simp -implicitDefEqProofs; rfl) (by simp -implicitDefEqProofs; rfl) (by first | (simp; done) | (simp; omega) | omega) ?_
            refine ⟨rfl, .arr sb 0 S1.length c, (.arr gb 0 (grs.length + 1) c2), ?_⟩
            have k4 : ∀ id, id < H.length → ∀ Y : AHeap, (H3 ++ Y)[id]? = H3[id]? := fun id h Y => List.getElem?_append_left (by omega)
            refine F.upd (sv' := .arr sb 0 S1.length c) (gv' := (.arr gb 0 (grs.length + 1) c2)) (low' := low) (by simp only [List.length_append, k3]; omega) rfl (by rw [k4 _ hfol]; exact k1) ?_ ?_ (.inl rfl) (fun y hy => ?_) (fun id u1 u2 u3 u4 u5 => ?_)
            · exact .inr ⟨sb, c, cs, rfl, by rw [k4 _ hsl, k2 _ hsf, h2o _ hgs]; exact hsH, g2, by omega, g4, hS1⟩
            · refine .inr ⟨gb, c2, _, by simp, by rw [k4 _ (get_lt r1), k2 _ hgf]; exact h2gb, by rw [over_len (by simp; omega)]; exact r2, by simp; omega, r4, ?_⟩
              rw [List.length_append, List.length_singleton, over_take1 (by omega), r5]
              simp [lv]
            · rw [k4 _ (hmi y hy).2, k2 _ (hmi y hy).1, h2o _ (fun h => hgbm (by rw [← h]; exact List.mem_cons.2 (.inr (List.mem_map.2 ⟨y, hy, rfl⟩))))]; exact hms y hy
            · rw [k4 id u1, k2 id u2, h2o id (by simpa [blk] using u4), hh4 id (fun h => (List.mem_cons.1 h).elim u2 u5)]
          · simp only [List.length_append, List.length_cons, Nat.zero_add, AV.cells, List.append_assoc, List.cons_append, List.nil_append, hh1, Nat.reduceMul, Nat.mul_one]
            refine tree_s (tree_start (goesT_eq (by simp -implicitDefEqProofs (disch := (first | omega | (simp; done) | fail)) [if_pos, if_neg, hfo5]; rfl) ?_))
            refine goesT_done ?_
            (try simp only [vq, if_true, reduceIte, Nat.reduceEqDiff, reduceCtorEq])
            have k1 : (HH.set fo (.cells [.map i1, .map i2, .map i3, .arr sb 0 S1.length c, (.arr (H.length + (X.length + 1 + 1 + 1)) 0 (grs.length + 1) c')]))[fo]? = some (.cells [.map i1, .map i2, .map i3, .arr sb 0 S1.length c, (.arr (H.length + (X.length + 1 + 1 + 1)) 0 (grs.length + 1) c')]) := List.getElem?_set_self (by omega)
            have k2 : ∀ id, id ≠ fo → (HH.set fo (.cells [.map i1, .map i2, .map i3, .arr sb 0 S1.length c, (.arr (H.length + (X.length + 1 + 1 + 1)) 0 (grs.length + 1) c')]))[id]? = HH[id]? := fun id h => List.getElem?_set_ne (Ne.symm h)
            have k3 : (HH.set fo (.cells [.map i1, .map i2, .map i3, .arr sb 0 S1.length c, (.arr (H.length + (X.length + 1 + 1 + 1)) 0 (grs.length + 1) c')])).length = H.length := by rw [List.length_set, hh1]
            generalize HH.set fo (.cells [.map i1, .map i2, .map i3, .arr sb 0 S1.length c, (.arr (H.length + (X.length + 1 + 1 + 1)) 0 (grs.length + 1) c')]) = H3 at *
            repeat (first | ((first | refine zd ?_ | refine zx ?_ | refine zk ?_ | refine zl ?_ | refine zr ?_); refine zq ?_) | refine zs ?_ | refine zg ?_ | refine zb ?_ | refine zo ?_ | refine zt ?_ | refine zf ?_)
            first | refine body_all (.inr rfl) (by simp -implicitDefEqProofs; rfl) (by simp -implicitDefEqProofs; rfl) (by first | (simp; done) | (simp; omega) | omega) ?_ | refine body_all (.inl rfl) (by simp -implicitDefEqProofs; rfl) (by simp -implicitDefEqProofs; rfl) (by first | (simp; done) | (simp; omega) | omega) ?_
            refine ⟨rfl, .arr sb 0 S1.length c, (.arr (H.length + (X.length + 1 + 1 + 1)) 0 (grs.length + 1) c'), ?_⟩
            have k4 : ∀ id, id < H.length → ∀ Y : AHeap, (H3 ++ Y)[id]? = H3[id]? := fun id h Y => List.getElem?_append_left (by omega)
            refine F.upd (sv' := .arr sb 0 S1.length c) (gv' := (.arr (H.length + (X.length + 1 + 1 + 1)) 0 (grs.length + 1) c')) (low' := low) (by simp only [List.length_append, k3]; omega) rfl (by rw [k4 _ hfol]; exact k1) ?_ ?_ (.inr ⟨_, Nat.le_add_right _ _, rfl⟩) (fun y hy => ?_) (fun id u1 u2 u3 u4 u5 => ?_)
            · exact .inr ⟨sb, c, cs, rfl, by rw [k4 _ hsl, k2 _ hsf, (rfl : HH[sb]? = HH[sb]?)]; exact hsH, g2, by omega, g4, hS1⟩
            · refine .inr ⟨H.length + (X.length + 1 + 1 + 1), c', cs2 ++ .list (g.map Iid.av) .no :: u, by simp, by rw [List.getElem?_append_right (by omega), k3, Nat.add_sub_cancel_left]; simp, ?_, by simpa using hc', by omega, ?_⟩
              · simp [hu]; omega
              · (have hcs2 : cs2 = grs.map lv := by rw [← r5, List.take_of_length_le (by omega)]); rw [hcs2, show grs.map lv ++ (.list (g.map Iid.av) .no : AV) :: u = (grs ++ [g]).map lv ++ u from by simp [lv], List.take_left' (by simp)]
            · rw [k4 _ (hmi y hy).2, k2 _ (hmi y hy).1]; exact hms y hy
            · rw [k4 id u1, k2 id u2, hh4 id (fun h => (List.mem_cons.1 h).elim u2 u5)]
    · have hlt : i < (x :: S2).length := by omega
      have q : (i : Int) < (M : Int) := by omega
      obtain ⟨p1, p2⟩ := hgp i hlt
      have hyg : (x :: S2)[i] ∈ x :: S2 := List.getElem_mem hlt
      have htk : ∀ y, y ∈ (x :: S2).take (i + 1) ↔ y ∈ (x :: S2).take i ∨ y = (x :: S2)[i] := fun y => by rw [List.take_succ_eq_append_getElem hlt, List.mem_append, List.mem_singleton]
      generalize (x :: S2)[i] = y at *
      have hyv : y ∈ vis := hsub y (by rw [List.mem_append]; exact .inr hyg)
      refine awp_seq ?_
      refine zh (by simp -implicitDefEqProofs (disch := (first | omega | (simp; done) | fail)) [if_pos, if_neg, wrap_i64, tmod_pos, tdiv_pos, Int.toNat_add, q]; rfl) ?_
      refine goes_done ?_
      (try simp only [vq, if_true, reduceIte, Nat.reduceEqDiff, reduceCtorEq])
      refine awp_seq ?_
      refine awp_cond_t rfl ?_
      refine awp_skip ?_
      simp only [vq, if_true, reduceIte, Nat.reduceEqDiff, reduceCtorEq]
      refine awp_seq ?_
      refine awp_block ?_
      refine awp_seq ?_
      refine zh (by simp -implicitDefEqProofs (disch := (first | omega | (simp; done) | fail)) [if_pos, if_neg, wrap_i64, tmod_pos, tdiv_pos, Int.toNat_add, p1, p2]; rfl) ?_
      refine goes_done ?_
      (try simp only [vq, if_true, reduceIte, Nat.reduceEqDiff, reduceCtorEq])
      refine awp_hard (id := HH.length + (X.length + 1 + 1 + 1)) (by simp -implicitDefEqProofs; rfl) ?_
      simp -implicitDefEqProofs only [Slots.melt, AV.melt, Nat.add_left_cancel_iff, Nat.add_eq_left, Nat.left_eq_add, Nat.reduceEqDiff, reduceIte, Nat.succ_ne_self, Nat.one_ne_zero, Nat.zero_ne_one, List.set_append_right, List.set_append_left, Nat.sub_self, Nat.le_refl, Nat.add_sub_cancel_left, Nat.le_add_right, List.set_cons_zero, List.set_cons_succ]
      have hHd : ∀ (G : AHeap) (Y : AHeap), G[fo]? = some (.cells [.map i1, .map i2, .map i3, .arr sb 0 S1.length c, gv]) → HeldA (G ++ Y) [(fo, 2, .map i3)] := fun G Y hG q hq => by
        have : q = (fo, 2, .map i3) := by simpa using hq
        subst this
        exact ⟨rfl, _, by rw [List.getElem?_append_left (get_lt hG)]; exact hG, rfl⟩
      have hpH : ∀ Y : AHeap, (HH ++ Y)[i3]? = some (mapO Iid.av p.1 p.2) := fun Y => by
        rw [List.getElem?_append_left (by rw [hh1]; exact get_lt hp), hh4 _ (fun h => ?_)]
        · exact hp
        · rcases List.mem_cons.1 h with h | h
          · exact hi3 h
          · obtain ⟨z, hz, e⟩ := List.mem_map.1 h
            exact hi3m z hz e
      have hmk : ∀ Y : AHeap, (HH ++ Y)[mid y]? = some (.cells [iv (vis.idxOf y : Nat), iv (low y : Nat), .bool (decide (y ∈ S1 ++ x :: S2 ∧ y ∉ (x :: S2).take i))]) := fun Y => by
        rw [List.getElem?_append_left (by rw [hh1]; exact (hmi y hyv).2)]; exact hh3 y hyv
      have hml : mid y < HH.length := by rw [hh1]; exact (hmi y hyv).2
      refine awp_drawH [(fo, 2, .map i3)] (.q 0 (.q 1 (.q 2 (.q 3 (.q 4 (.a 5 (.q 6 (.q 7 (.a 8 (.done)))))))))) (hHd _ _ hh2) (by kernel_rfl) (by kernel_rfl) ?_
      refine treeH_qs (l := [0, 1, 2]) (tree_start (goesT_eq (by simp -implicitDefEqProofs (disch := (first | omega | (simp; done) | fail)) [if_pos, if_neg, wrap_i64]; rfl) ?_))
      refine goesT_done ⟨rfl, ?_⟩
      refine treeH_ld1 (.map i3) rfl rfl (by rfl) rfl (by simp) rfl ?_
      refine treeH_qs (l := [4]) (tree_start (goesT_eq (by simp -implicitDefEqProofs (disch := (first | omega | (simp; done) | fail)) [if_pos, if_neg, wrap_i64]; rfl) ?_))
      refine goesT_done ⟨rfl, ?_⟩
      refine treeH_a (aats_look (id := i3) (es := p.1) (clock := p.2) (k := y) (z := .nilptr) iid_key rfl rfl (by rfl) hu zero_mark rfl rfl (hpH _) ⟨hHd _ _ hh2, ?_⟩)
      rw [lookE_get, hpg, if_pos hyv, Option.getD_some]
      refine treeH_qs (l := [6, 7]) (tree_start (goesT_eq (by simp -implicitDefEqProofs (disch := (first | omega | (simp; done) | fail)) [if_pos, if_neg, wrap_i64]; rfl) ?_))
      refine goesT_done ⟨rfl, ?_⟩
      refine treeH_auto (tree_start (goesT_eq (by simp -implicitDefEqProofs (disch := (first | omega | (simp; done) | fail)) [if_pos, if_neg, wrap_i64, hmk]; rfl) ?_))
      have j1 : (HH.set (mid y) (.cells [iv (vis.idxOf y : Nat), iv (low y : Nat), .bool false]))[mid y]? = some (.cells [iv (vis.idxOf y : Nat), iv (low y : Nat), .bool false]) := List.getElem?_set_self hml
      have j2 : ∀ id, id ≠ mid y → (HH.set (mid y) (.cells [iv (vis.idxOf y : Nat), iv (low y : Nat), .bool false]))[id]? = HH[id]? := fun id h => List.getElem?_set_ne (Ne.symm h)
      have j3 : (HH.set (mid y) (.cells [iv (vis.idxOf y : Nat), iv (low y : Nat), .bool false])).length = HH.length := List.length_set
      generalize HH.set (mid y) (.cells [iv (vis.idxOf y : Nat), iv (low y : Nat), .bool false]) = HG at *
      have jfo : HG[fo]? = some (.cells [.map i1, .map i2, .map i3, .arr sb 0 S1.length c, gv]) := by rw [j2 _ (Ne.symm (hmi y hyv).1)]; exact hh2
      refine goesT_done ⟨hHd _ _ jfo, ?_⟩
      refine treeH_done ?_
      repeat (first | ((first | refine zd ?_ | refine zx ?_ | refine zk ?_ | refine zl ?_ | refine zr ?_); refine zq ?_) | refine zs ?_ | refine zg ?_ | refine zb ?_ | refine zo ?_ | refine zt ?_ | refine zf ?_)
      refine ⟨M - (i + 1), by omega, i + 1, HG, X ++ [.dead], rfl, by omega, j3, jfo, fun z hz => ?_, fun id hid => ?_, st_keep' (by simp []) (by simp [])⟩
      · by_cases e : z = y
        · subst e
          rw [j1]
          have : ¬ (z ∈ S1 ++ x :: S2 ∧ z ∉ (x :: S2).take (i + 1)) := fun h => h.2 ((htk z).2 (.inr rfl))
          simp only [this, decide_false]
        · rw [j2 _ (fun h => e (hmj z hz y hyv h)), hh3 z hz]
          have : (z ∈ S1 ++ x :: S2 ∧ z ∉ (x :: S2).take (i + 1)) ↔ (z ∈ S1 ++ x :: S2 ∧ z ∉ (x :: S2).take i) := by
            rw [htk]; simp [e]
          simp only [this]
      · rw [j2 _ (fun h => hid (by rw [h]; exact List.mem_cons.2 (.inr (List.mem_map.2 ⟨y, hyv, rfl⟩)))), hh4 id hid]
  · exact ⟨0, H1, [], rfl, by omega, hk3, hk1, fun y hy => by rw [hk2 _ (hmi y hy).1, F.mrk y hy]; simp, fun id hid => hk2 id fun e => hid (by simp [e]), st_keep' (by simp []) (by simp [])⟩
end Go.Proofs.Ytajgeofhlgoifaa.G

/- The order of groups, in plain words: no program is named here. -/
set_option linter.unusedSectionVars false
set_option linter.unusedVariables false
namespace Go.Proofs.Ytajgeofhlgoifaa.Tar
variable {α : Type} [DecidableEq α]
/-! The order of groups, in plain words. -/
theorem pw_unique {β : Type} {R : β → β → Prop} (has : ∀ a b, R a b → ¬ R b a) : ∀ {l1 l2 : List β}, l1.Pairwise R → l2.Pairwise R → (∀ x, x ∈ l1 ↔ x ∈ l2) → l1 = l2
  | [], [], _, _, _ => rfl
  | [], b :: l2, _, _, h => absurd ((h b).2 (by simp)) (by simp)
  | a :: l1, [], _, _, h => absurd ((h a).1 (by simp)) (by simp)
  | a :: l1, b :: l2, p1, p2, h => by
    rw [List.pairwise_cons] at p1 p2
    have irr : ∀ a, ¬ R a a := fun a h => has a a h h
    have e : a = b := by
      rcases List.mem_cons.1 ((h a).1 (by simp)) with e | h1
      · exact e
      · rcases List.mem_cons.1 ((h b).2 (by simp)) with e | h2
        · exact e.symm
        · exact absurd (p1.1 b h2) (has _ _ (p2.1 a h1))
    subst e
    congr 1
    refine pw_unique has p1.2 p2.2 fun x => ⟨fun hx => ?_, fun hx => ?_⟩
    · rcases List.mem_cons.1 ((h x).1 (by simp [hx])) with e | h1
      · subst e; exact absurd (p1.1 x hx) (irr x)
      · exact h1
    · rcases List.mem_cons.1 ((h x).2 (by simp [hx])) with e | h1
      · subst e; exact absurd (p2.1 x hx) (irr x)
      · exact h1
def minF (lt : α → α → Bool) (a : α) (l : List α) : α := l.foldl (fun m x => if lt x m then x else m) a
structure LtOk (lt : α → α → Bool) : Prop where
  asy : ∀ a b, lt a b = true → lt b a = false
  tr : ∀ a b c, lt a b = true → lt b c = true → lt a c = true
  tot : ∀ a b, lt a b = false → lt b a = false → a = b
theorem LtOk.irr {lt : α → α → Bool} (L : LtOk lt) (a : α) : lt a a = false := by
  cases h : lt a a with
  | false => rfl
  | true => exact absurd h (by rw [L.asy a a h]; simp)
/-- Of two that are not less, the less one is not less. -/
theorem LtOk.ntr {lt : α → α → Bool} (L : LtOk lt) {a b c : α} (h1 : lt a b = false) (h2 : lt b c = false) : lt a c = false := by
  cases h : lt a c with
  | false => rfl
  | true =>
    cases h3 : lt b a with
    | true => rw [L.tr _ _ _ h3 h] at h2; cases h2
    | false =>
      have := L.tot a b h1 h3
      subst this
      rw [h] at h2; cases h2
theorem minF_ok {lt : α → α → Bool} (L : LtOk lt) : ∀ (l : List α) (a : α), minF lt a l ∈ a :: l ∧ ∀ y ∈ a :: l, lt y (minF lt a l) = false
  | [], a => ⟨by simp [minF], fun y hy => by simp at hy; subst hy; exact L.irr _⟩
  | x :: l, a => by
    have ih := minF_ok L l (if lt x a then x else a)
    have e : minF lt a (x :: l) = minF lt (if lt x a then x else a) l := rfl
    rw [e]
    obtain ⟨h1, h2⟩ := ih
    generalize minF lt (if lt x a then x else a) l = m at *
    have hc := h2 (if lt x a then x else a) (by simp)
    refine ⟨?_, fun y hy => ?_⟩
    · rcases List.mem_cons.1 h1 with h | h
      · rw [h]; split <;> simp
      · simp [h]
    · have hx : lt x m = false ∧ lt a m = false := by
        split at hc
        · rename_i hxa
          exact ⟨hc, L.ntr (L.asy _ _ hxa) hc⟩
        · rename_i hxa
          exact ⟨L.ntr (by simpa using hxa) hc, hc⟩
      rcases List.mem_cons.1 hy with rfl | hy
      · exact hx.2
      · rcases List.mem_cons.1 hy with rfl | hy
        · exact hx.1
        · exact h2 y (by simp [hy])
def leastL (lt : α → α → Bool) (d : α) : List α → α
  | [] => d
  | a :: l => minF lt a l
theorem leastL_ok {lt : α → α → Bool} (L : LtOk lt) (d : α) {g : List α} (hg : g ≠ []) : leastL lt d g ∈ g ∧ ∀ y ∈ g, lt y (leastL lt d g) = false := by
  cases g with
  | nil => exact absurd rfl hg
  | cons a l => exact minF_ok L l a
/-- The groups: each in the order of keys, by the least of each. -/
structure Gs (deps : α → List α) (done : α → Bool) (lt key : α → α → Bool) (d : α) (can : α → Prop) (gs : List (List α)) : Prop where
  grp : ∀ g ∈ gs, IsGrp deps done g
  srt : ∀ g ∈ gs, g.Pairwise fun a b => key a b = true
  mem : ∀ x, x ∈ gs.flatten ↔ can x
  nd : gs.flatten.Nodup
  ord : gs.Pairwise fun a b => lt (leastL lt d a) (leastL lt d b) = true
section
variable {deps : α → List α} {done : α → Bool} {lt key : α → α → Bool} {d : α} {can : α → Prop} {gs gs' : List (List α)}
theorem IsGrp.mem_iff {g : List α} (G : IsGrp deps done g) {x : α} (hx : x ∈ g) (y : α) : y ∈ g ↔ Rt deps done x y ∧ Rt deps done y x :=
  ⟨fun hy => ⟨G.each x hx y hy, G.each y hy x hx⟩, fun h => G.all x hx y h.1 h.2⟩
theorem grp_eq {g g' : List α} (K : LtOk key) (G : IsGrp deps done g) (G' : IsGrp deps done g') (s : g.Pairwise fun a b => key a b = true) (s' : g'.Pairwise fun a b => key a b = true) {x : α} (hx : x ∈ g) (hx' : x ∈ g') : g = g' :=
  pw_unique (fun a b h1 h2 => by rw [K.asy a b h1] at h2; cases h2) s s' fun y => by rw [G.mem_iff hx, G'.mem_iff hx']
theorem Gs.unique (K : LtOk key) (L : LtOk lt) (A : Gs deps done lt key d can gs) (B : Gs deps done lt key d can gs') : gs = gs' := by
  have half : ∀ {gs gs' : List (List α)}, Gs deps done lt key d can gs → Gs deps done lt key d can gs' → ∀ g ∈ gs, g ∈ gs' := fun {gs gs'} A B g hg => by
    obtain ⟨x, hx⟩ := List.exists_mem_of_ne_nil g (A.grp g hg).ne
    have hc : can x := (A.mem x).1 (List.mem_flatten.2 ⟨g, hg, hx⟩)
    obtain ⟨g', hg', hx'⟩ := List.mem_flatten.1 ((B.mem x).2 hc)
    rw [grp_eq K (A.grp g hg) (B.grp g' hg') (A.srt g hg) (B.srt g' hg') hx hx']
    exact hg'
  exact pw_unique (R := fun a b => lt (leastL lt d a) (leastL lt d b) = true) (fun a b h1 h2 => by rw [L.asy _ _ h1] at h2; cases h2) A.ord B.ord fun g => ⟨half A B g, half B A g⟩
def mayB (deps : α → List α) (now g : List α) : Bool := g.all fun x => (deps x).all fun y => decide (y ∈ now) || decide (y ∈ g)
theorem mayB_iff {now g : List α} : mayB deps now g = true ↔ May deps now g := by
  unfold mayB May
  simp
theorem mayB_congr {now now' : List α} (h : ∀ x, x ∈ now ↔ x ∈ now') (g : List α) : mayB deps now g = mayB deps now' g := by
  rw [Bool.eq_iff_iff, mayB_iff, mayB_iff]
  unfold May
  simp only [h]
/-- One by one: the first that may be next. -/
def runO (deps : α → List α) : Nat → List α → List (List α) → List (List α)
  | 0, _, _ => []
  | n + 1, now, left => match left.findIdx? (mayB deps now) with
    | none => []
    | some i => (left[i]?.getD []) :: runO deps n (now ++ (left[i]?.getD [])) (left.eraseIdx i)
theorem runO_congr : ∀ (n : Nat) {now now' : List α} (h : ∀ x, x ∈ now ↔ x ∈ now') (left : List (List α)), runO deps n now left = runO deps n now' left
  | 0, _, _, _, _ => rfl
  | n + 1, now, now', h, left => by
    unfold runO
    have e : mayB deps now = mayB deps now' := funext fun g => mayB_congr h g
    rw [e]
    cases left.findIdx? (mayB deps now') with
    | none => rfl
    | some i => simp only; rw [runO_congr n (now' := now' ++ left[i]?.getD []) (fun x => by simp [h])]
/-- What is between two steps: what is done, what is left. -/
structure Left (deps : α → List α) (done : α → Bool) (grs : List (List α)) (now : List α) (left : List (List α)) : Prop where
  topo : ∀ (i : Nat) (g : List α), grs[i]? = some g → ∀ x ∈ g, ∀ y, Succ deps done x y → y ∈ g ∨ y ∈ (grs.take i).flatten
  dn : ∀ y, done y = true → y ∈ now
  sub : ∀ g ∈ left, g ∈ grs
  out : ∀ g ∈ grs, g ∉ left → ∀ x ∈ g, x ∈ now
theorem Left.next {grs left : List (List α)} {now : List α} (I : Left deps done grs now left) (hne : left ≠ []) : ∃ i, left.findIdx? (mayB deps now) = some i := by
  obtain ⟨g, hg, hm⟩ := some_may I.topo I.dn I.sub I.out hne
  cases h : left.findIdx? (mayB deps now) with
  | some i => exact ⟨i, rfl⟩
  | none =>
    rw [List.findIdx?_eq_none_iff] at h
    have := h g hg
    rw [mayB_iff.2 hm] at this
    cases this
theorem Left.step {grs left : List (List α)} {now : List α} (I : Left deps done grs now left) (hnd : left.Nodup) {i : Nat} {g : List α} (hi : left[i]? = some g) : Left deps done grs (now ++ g) (left.eraseIdx i) := by
  refine ⟨I.topo, fun y hy => by simp [I.dn y hy], fun g' hg' => I.sub g' (List.mem_of_mem_eraseIdx hg'), fun g' hg' hn x hx => ?_⟩
  by_cases hl : g' ∈ left
  · have : g' = g := by
      obtain ⟨j, hj, e⟩ := List.getElem_of_mem hl
      by_cases hij : j = i
      · subst hij
        rw [List.getElem?_eq_getElem hj] at hi
        injection hi with hi
        rw [← e, hi]
      · refine absurd ?_ hn
        rw [List.mem_eraseIdx_iff_getElem?]
        exact ⟨j, hij, by rw [List.getElem?_eq_getElem hj, e]⟩
    subst this
    simp [hx]
  · simp [I.out g' hg' hl x hx]
theorem find_get {p : List α → Bool} {l : List (List α)} {i : Nat} (h : l.findIdx? p = some i) : ∃ g, l[i]? = some g ∧ p g = true ∧ ∀ j g', j < i → l[j]? = some g' → p g' = false := by
  rw [List.findIdx?_eq_some_iff_getElem] at h
  obtain ⟨h1, h2, h3⟩ := h
  refine ⟨l[i], by rw [List.getElem?_eq_getElem h1], h2, fun j g' hj hg => ?_⟩
  have hjl : j < l.length := by omega
  rw [List.getElem?_eq_getElem hjl] at hg
  injection hg with hg
  rw [← hg]
  simpa using h3 j hj
theorem perm_erase {l : List (List α)} {i : Nat} {g : List α} (h : l[i]? = some g) : (g :: l.eraseIdx i).Perm l := by
  obtain ⟨hi, e⟩ := List.getElem?_eq_some_iff.1 h
  rw [List.eraseIdx_eq_take_drop_succ]
  have h2 : l = l.take i ++ g :: l.drop (i + 1) := by
    rw [← e]; simp
  refine List.Perm.trans ?_ (List.Perm.of_eq h2.symm)
  exact List.perm_middle.symm
theorem runO_ok {grs : List (List α)} : ∀ (n : Nat) (now : List α) (left : List (List α)), left.length ≤ n → left.Nodup → Left deps done grs now left →
    (runO deps n now left).Perm left ∧ ∀ i g, (runO deps n now left)[i]? = some g → May deps (now ++ ((runO deps n now left).take i).flatten) g
  | 0, now, left, hl, hnd, I => by
    have : left = [] := List.length_eq_zero_iff.1 (by omega)
    subst this
    exact ⟨.refl _, fun i g h => by simp [runO] at h⟩
  | n + 1, now, left, hl, hnd, I => by
    by_cases hne : left = []
    · subst hne
      exact ⟨by simp [runO], fun i g h => by simp [runO] at h⟩
    · obtain ⟨j, hj⟩ := I.next hne
      obtain ⟨g, hg, hm, _⟩ := find_get hj
      have hp := perm_erase hg
      have hnd2 : (left.eraseIdx j).Nodup := (List.nodup_cons.1 (hp.nodup_iff.2 hnd)).2
      have hlen : (left.eraseIdx j).length ≤ n := by have := hp.length_eq; simp at this; omega
      obtain ⟨h1, h2⟩ := runO_ok n (now ++ g) (left.eraseIdx j) hlen hnd2 (I.step hnd hg)
      have e : runO deps (n + 1) now left = g :: runO deps n (now ++ g) (left.eraseIdx j) := by
        rw [runO]; simp only [hj]; rw [hg]; rfl
      rw [e]
      refine ⟨(List.Perm.cons g h1).trans hp, fun i g' hi => ?_⟩
      cases i with
      | zero =>
        simp at hi; subst hi
        simpa using mayB_iff.1 hm
      | succ i =>
        have := h2 i g' (by simpa using hi)
        simpa [List.append_assoc] using this
/-- Behind some steps it goes on so. -/
theorem runO_drop {grs : List (List α)} : ∀ (k n : Nat) (now : List α) (left : List (List α)), left.length ≤ n → left.Nodup → Left deps done grs now left → k ≤ left.length →
    ∃ left', left'.Sublist left ∧ (∀ g, g ∈ left' ↔ g ∈ left ∧ g ∉ (runO deps n now left).take k) ∧ left'.length = left.length - k ∧ (runO deps n now left).drop k = runO deps (n - k) (now ++ ((runO deps n now left).take k).flatten) left'
  | 0, n, now, left, hl, hnd, I, hk => ⟨left, List.Sublist.refl _, by simp, by simp, by simp⟩
  | k + 1, 0, now, left, hl, hnd, I, hk => by omega
  | k + 1, n + 1, now, left, hl, hnd, I, hk => by
    have hne : left ≠ [] := fun e => by subst e; simp at hk
    obtain ⟨j, hj⟩ := I.next hne
    obtain ⟨g, hg, hm, _⟩ := find_get hj
    have hp := perm_erase hg
    have hnd1 := List.nodup_cons.1 (hp.nodup_iff.2 hnd)
    have hlen2 : (left.eraseIdx j).length = left.length - 1 := by have := hp.length_eq; simp at this; omega
    obtain ⟨left', h1, h2, h3, h4⟩ := runO_drop k n (now ++ g) (left.eraseIdx j) (by omega) hnd1.2 (I.step hnd hg) (by omega)
    have e : runO deps (n + 1) now left = g :: runO deps n (now ++ g) (left.eraseIdx j) := by
      rw [runO]; simp only [hj]; rw [hg]; rfl
    rw [e]
    refine ⟨left', h1.trans (List.eraseIdx_sublist _ _), fun x => ?_, by omega, ?_⟩
    · rw [h2, List.take_succ_cons, List.mem_cons, not_or]
      have hx : x ∈ left ↔ x = g ∨ x ∈ left.eraseIdx j := by rw [← hp.mem_iff]; simp
      rw [hx]
      constructor
      · rintro ⟨a, b⟩
        exact ⟨.inr a, fun e => hnd1.1 (e ▸ a), b⟩
      · rintro ⟨a, b, c⟩
        exact ⟨a.resolve_left b, c⟩
    · rw [List.drop_succ_cons, h4]
      simp [List.append_assoc, Nat.add_sub_add_right]
end
end Go.Proofs.Ytajgeofhlgoifaa.Tar

/- Graphs: a search, between two steps. -/
set_option linter.unusedVariables false
set_option linter.unusedSimpArgs false
set_option maxRecDepth 20000
namespace Go.Proofs.Ytajgeofhlgoifaa.G
open Go Go.Proofs.Ytajgeofhlgoifaa.V Go.Proofs.Ytajgeofhlgoifaa.I Go.Sort Go.RowKit
def dnB (dn : List Iid) (y : Iid) : Bool := decide (y ∈ dn)
theorem can_succ {l : List Nod} {dn : List Iid} {x y : Iid} (h : CanDo l dn x) (hs : Tar.Succ (dpOf l) (dnB dn) x y) : CanDo l dn y := by
  obtain ⟨h1, h2, h3⟩ := h
  obtain ⟨s1, s2⟩ := hs
  have hy : y ∉ dn := by simpa [dnB] using s2
  refine ⟨(h3 y (.first s1)).resolve_right hy, hy, fun z hz => h3 z ?_⟩
  induction hz with
  | first hz => exact .next (.first s1) hy hz
  | next _ hd hz ih => exact .next ih hd hz
theorem can_len {l : List Nod} {dn vis : List Iid} (hn : vis.Nodup) (h : ∀ x ∈ vis, CanDo l dn x) : vis.length ≤ l.length := by
  have := List.Nodup.length_le_of_subset hn (l₂ := l.map (·.id)) fun x hx => (h x hx).1
  simpa using this
theorem keyC_ok (l : List Nod) : Tar.LtOk (keyC l) := by
  have S := keyC_swo l
  refine ⟨fun a b h => ?_, S.trans, keyC_total l⟩
  cases h2 : keyC l b a with
  | false => rfl
  | true => have := S.trans a b a h h2; rw [S.irrefl] at this; cases this
theorem less_lt : Tar.LtOk lessB := by
  have S := ordG_swo
  have e : ∀ a b, ltOf ordG a b = lessB a b := ltG
  refine ⟨fun a b h => ?_, fun a b c h1 h2 => ?_, fun a b h1 h2 => ordG_total a b (by rw [e]; exact h1) (by rw [e]; exact h2)⟩
  · cases h2 : lessB b a with
    | false => rfl
    | true =>
      have := S.trans a b a (by rw [e]; exact h) (by rw [e]; exact h2)
      rw [S.irrefl] at this; cases this
  · have := S.trans a b c (by rw [e]; exact h1) (by rw [e]; exact h2)
    rwa [e] at this
theorem srtC_perm (l : List Nod) (ks : List Iid) : (srtC l ks).Perm ks := List.mergeSort_perm _ _
theorem srtC_pw (l : List Nod) (ks : List Iid) (hn : ks.Nodup) : (srtC l ks).Pairwise fun a b => keyC l a b = true := by
  have K := keyC_ok l
  have h1 : (srtC l ks).Pairwise fun a b => (!(keyC l b a)) = true := List.pairwise_mergeSort (le := fun x y => !(keyC l y x)) (fun a b c h1 h2 => by
    simp only [Bool.not_eq_true'] at h1 h2 ⊢
    exact K.ntr h2 h1) (fun a b => by
    cases h1 : keyC l b a with
    | false => simp
    | true => simp [K.asy _ _ h1]) ks
  have h2 : (srtC l ks).Nodup := (srtC_perm l ks).nodup_iff.2 hn
  refine (h1.and h2).imp ?_
  rintro a b ⟨h3, h4⟩
  cases h5 : keyC l a b with
  | true => rfl
  | false => exact absurd (K.tot a b h5 (by simpa using h3)) h4
def frC (p : Iid × Nat) : List AV := [iv p.1.e, iv p.1.n, iv p.1.o, iv (p.2 : Nat)]
theorem frC_len (ps : List (Iid × Nat)) : (ps.flatMap frC).length = ps.length * 4 := by
  induction ps with
  | nil => rfl
  | cons a l ih => simp only [List.flatMap_cons, List.length_append, List.length_cons, ih, frC, List.length_nil]; omega
/-- The nodes that are being looked at. -/
def CallsAt (H : AHeap) (cb cc : Nat) (calls : List (Iid × Nat)) : Prop := ∃ ccs, H[cb]? = some (.cells ccs) ∧ ccs.length = cc * 4 ∧ calls.length ≤ cc ∧ 0 < cc ∧ ccs.take (calls.length * 4) = calls.flatMap frC
theorem CallsAt.keep {H H' : AHeap} {cb cc : Nat} {calls : List (Iid × Nat)} (h : CallsAt H cb cc calls) (k : H'[cb]? = H[cb]?) : CallsAt H' cb cc calls := by
  obtain ⟨ccs, h1, h2⟩ := h
  exact ⟨ccs, k.trans h1, h2⟩
theorem CallsAt.lt {H : AHeap} {cb cc : Nat} {calls : List (Iid × Nat)} (h : CallsAt H cb cc calls) : cb < H.length := by
  obtain ⟨ccs, h1, h2⟩ := h
  exact get_lt h1
theorem CallsAt.pop {H : AHeap} {cb cc : Nat} {A : List (Iid × Nat)} {p : Iid × Nat} (h : CallsAt H cb cc (A ++ [p])) : CallsAt H cb cc A := by
  obtain ⟨ccs, h1, h2, h3, h4, h5⟩ := h
  simp only [List.length_append, List.length_singleton] at h3 h5
  refine ⟨ccs, h1, h2, by omega, h4, ?_⟩
  have : (ccs.take ((A.length + 1) * 4)).take (A.length * 4) = A.flatMap frC := by rw [h5, List.flatMap_append, List.take_left' (frC_len _)]
  rw [← this, List.take_take]; congr 1; omega
/-- The last one's cells. -/
theorem CallsAt.last {H : AHeap} {cb cc : Nat} {A : List (Iid × Nat)} {v : Iid} {n : Nat} (h : CallsAt H cb cc (A ++ [(v, n)])) : ∃ ccs, H[cb]? = some (.cells ccs) ∧ A.length * 4 + 4 ≤ ccs.length ∧ ccs[A.length * 4]? = some (iv v.e) ∧ ccs[A.length * 4 + 1]? = some (iv v.n) ∧ ccs[A.length * 4 + 2]? = some (iv v.o) ∧ ccs[A.length * 4 + 3]? = some (iv (n : Nat)) := by
  obtain ⟨ccs, h1, h2, h3, h4, h5⟩ := h
  simp only [List.length_append, List.length_singleton] at h3 h5
  have hl : A.length * 4 + 4 ≤ ccs.length := by omega
  have hd : ∀ i, i < 4 → ccs[A.length * 4 + i]? = (frC (v, n))[i]? := fun i hi => by
    have h6 : (ccs.take ((A.length + 1) * 4))[A.length * 4 + i]? = (frC (v, n))[i]? := by
      rw [h5, List.flatMap_append, List.getElem?_append_right (by rw [frC_len]; omega), frC_len, Nat.add_sub_cancel_left]
      simp
    rw [← h6, List.getElem?_take, if_pos (by omega)]
  exact ⟨ccs, h1, hl, hd 0 (by omega), hd 1 (by omega), hd 2 (by omega), hd 3 (by omega)⟩
theorem CallsAt.next {H H' : AHeap} {cb cc : Nat} {A : List (Iid × Nat)} {v : Iid} {n m : Nat} (h : CallsAt H cb cc (A ++ [(v, n)])) {ccs : List AV} (hc : H[cb]? = some (.cells ccs)) (h' : H'[cb]? = some (.cells (ccs.set (A.length * 4 + 3) (iv (m : Nat))))) : CallsAt H' cb cc (A ++ [(v, m)]) := by
  obtain ⟨ccs', h1, h2, h3, h4, h5⟩ := h
  rw [hc] at h1
  injection h1 with h1
  injection h1 with h1
  subst h1
  simp only [List.length_append, List.length_singleton] at h3 h5
  refine ⟨_, h', by rw [List.length_set]; exact h2, by simpa using h3, h4, ?_⟩
  simp only [List.length_append, List.length_singleton]
  rw [List.take_set, h5, List.flatMap_append, List.flatMap_append, List.set_append_right _ _ (by rw [frC_len]; omega), frC_len, Nat.add_sub_cancel_left]
  simp [frC]
theorem CallsAt.lt_len {H : AHeap} {cb cc : Nat} {calls : List (Iid × Nat)} (C : CallsAt H cb cc calls) : calls.length ≤ cc := by
  obtain ⟨_, _, _, h, _⟩ := C
  exact h
/-- One more call: with room, and in a new block. -/
theorem CallsAt.room {H H' : AHeap} {cb cc : Nat} {calls : List (Iid × Nat)} {p : Iid × Nat} {ccs : List AV} (h2 : ccs.length = cc * 4) (h5 : ccs.take (calls.length * 4) = calls.flatMap frC) (hr : calls.length < cc) (h' : H'[cb]? = some (.cells (V.over ccs (calls.length * 4) (frC p)))) : CallsAt H' cb cc (calls ++ [p]) := by
  have hl : calls.length * 4 + 4 ≤ ccs.length := by omega
  refine ⟨_, h', by rw [over_len (by simp [frC]; omega)]; exact h2, by simp; omega, by omega, ?_⟩
  unfold V.over
  have e : (calls ++ [p]).length * 4 = calls.length * 4 + 4 := by simp; omega
  rw [e, List.take_append_of_le_length (by simp [frC]; omega), List.take_of_length_le (by simp [frC]; omega), h5, List.flatMap_append]
  simp
theorem CallsAt.grow {H' : AHeap} {cb cc c' : Nat} {calls : List (Iid × Nat)} {p : Iid × Nat} {ccs u : List AV} (h2 : ccs.length = cc * 4) (h5 : ccs.take (calls.length * 4) = calls.flatMap frC) (hr : calls.length = cc) (hc : calls.length + 1 ≤ c') (hu : u.length = (c' - (calls.length + 1)) * 4) (h' : H'[cb]? = some (.cells (ccs ++ frC p ++ u))) : CallsAt H' cb c' (calls ++ [p]) := by
  have e : ccs = calls.flatMap frC := by rw [← h5, List.take_of_length_le (by omega)]
  refine ⟨_, h', by simp [frC, hu, h2]; omega, by simpa using hc, by omega, ?_⟩
  rw [e, show calls.flatMap frC ++ frC p ++ u = (calls ++ [p]).flatMap frC ++ u from by simp, List.take_left' (frC_len _)]
section
variable {l : List Nod} {dn : List Iid}
/-- What holds between two steps of a search. -/
structure At (H0 H : AHeap) (O0 : List Nat) (l : List Nod) (dn : List Iid) (i1 i2 i3 fo : Nat) (vis0 : List Iid) (sv gv : AV) (mid : Iid → Nat) (vis : List Iid) (low : Iid → Nat) (stk : List Iid) (grs : List (List Iid)) (calls : List (Iid × Nat)) : Prop where
  F : FS H l dn i1 i2 i3 fo sv gv mid vis low stk grs
  I : Tar.Inv (dpOf l) (dnB dn) vis low stk calls
  G : Tar.Found (dpOf l) (dnB dn) vis stk grs
  S : ∀ g ∈ grs, g.Pairwise fun a b => keyC l a b = true
  K : Kp H0 H O0 (own i3 fo sv gv mid vis)
  C : ∀ x ∈ vis, CanDo l dn x
  V : ∀ x ∈ vis0, x ∈ vis
variable {H0 H H' : AHeap} {O0 : List Nat} {i1 i2 i3 fo : Nat} {vis0 : List Iid} {sv gv : AV} {mid : Iid → Nat} {vis : List Iid} {low : Iid → Nat} {stk : List Iid} {grs : List (List Iid)} {calls : List (Iid × Nat)}
theorem At.keep (A : At H0 H O0 l dn i1 i2 i3 fo vis0 sv gv mid vis low stk grs calls) (k : ∀ id, id = i1 ∨ id = i2 ∨ id ∈ own i3 fo sv gv mid vis → H'[id]? = H[id]?) (hl : H.length ≤ H'.length) (hs : ∀ id, id < H0.length → id ∉ O0 → H'[id]? = H[id]?) : At H0 H' O0 l dn i1 i2 i3 fo vis0 sv gv mid vis low stk grs calls :=
  ⟨A.F.keep k, A.I, A.G, A.S, ⟨Nat.le_trans A.K.len hl, fun id h1 h2 => (hs id h1 h2).trans (A.K.same id h1 h2), A.K.sub⟩, A.C, A.V⟩
theorem At.app (A : At H0 H O0 l dn i1 i2 i3 fo vis0 sv gv mid vis low stk grs calls) (Y : AHeap) : At H0 (H ++ Y) O0 l dn i1 i2 i3 fo vis0 sv gv mid vis low stk grs calls :=
  ⟨A.F.app Y, A.I, A.G, A.S, A.K.trans (Kp.app _ _ _), A.C, A.V⟩
theorem CallsAt.app {cb cc : Nat} (C : CallsAt H cb cc calls) (Y : AHeap) : CallsAt (H ++ Y) cb cc calls := C.keep (List.getElem?_append_left C.lt)
/-- The block of the calls is none of the search's. -/
theorem At.cb_ne (A : At H0 H O0 l dn i1 i2 i3 fo vis0 sv gv mid vis low stk grs calls) {calls' : List (Iid × Nat)} {cb cc : Nat} (C : CallsAt H cb cc calls') : cb ≠ i1 ∧ cb ≠ i2 := by
  obtain ⟨ccs, h1, _⟩ := C
  refine ⟨fun e => ?_, fun e => ?_⟩
  · have := A.F.nodes; rw [← e, h1] at this; simp [MS.o, mapO] at this
  · have := A.F.done; rw [← e, h1] at this; simp [MS.o, mapO] at this
/-- The calls' block turns. -/
theorem At.cset (A : At H0 H O0 l dn i1 i2 i3 fo vis0 sv gv mid vis low stk grs calls) {calls' : List (Iid × Nat)} {cb cc : Nat} (C : CallsAt H cb cc calls') (h0 : H0.length ≤ cb) (hc : cb ∉ own i3 fo sv gv mid vis) (o : AObj) : At H0 (H.set cb o) O0 l dn i1 i2 i3 fo vis0 sv gv mid vis low stk grs calls := by
  obtain ⟨n1, n2⟩ := A.cb_ne C
  refine A.keep (fun id hid => List.getElem?_set_ne fun e => ?_) (by simp) fun id h1 _ => List.getElem?_set_ne (by omega)
  subst e
  rcases hid with h | h | h
  · exact n1 h
  · exact n2 h
  · exact hc h
/-- As many groups as nodes, at most. -/
theorem grs_len (A : At H0 H O0 l dn i1 i2 i3 fo vis0 sv gv mid vis low stk grs calls) : grs.length ≤ l.length := by
  have h1 : ∀ gs : List (List Iid), (∀ g ∈ gs, g ≠ []) → gs.length ≤ gs.flatten.length := fun gs => by
    induction gs with
    | nil => simp
    | cons g gs ih =>
      intro h
      have := ih fun g hg => h g (by simp [hg])
      have := List.length_pos_iff.2 (h g (by simp))
      rw [List.flatten_cons, List.length_append, List.length_cons]; omega
  have h2 := h1 grs fun g hg => (A.G.grp g hg).ne
  have h3 := List.Nodup.length_le_of_subset A.G.nd (l₂ := vis) fun x hx => ((A.G.mem x).1 hx).1
  have h4 := can_len A.I.nd A.C
  omega
theorem stk_len (A : At H0 H O0 l dn i1 i2 i3 fo vis0 sv gv mid vis low stk grs calls) : stk.length ≤ l.length ∧ stk.Nodup := by
  have h0 : stk.Nodup := A.I.srt.imp fun {a b} h e => by subst e; omega
  have h3 := List.Nodup.length_le_of_subset h0 (l₂ := vis) A.I.sub
  have h4 := can_len A.I.nd A.C
  exact ⟨by omega, h0⟩
theorem At.look (A : At H0 H O0 l dn i1 i2 i3 fo vis0 sv gv mid vis low stk grs calls) {B : List (Iid × Nat)} {v y : Iid} {k : Nat} (hc : calls = B ++ [(v, k)]) (hy : (dpOf l v)[k]? = some y) (hv : dnB dn y = false → y ∈ vis) (hno : ¬ (dnB dn y = false ∧ y ∈ stk)) : At H0 H O0 l dn i1 i2 i3 fo vis0 sv gv mid vis low stk grs (B ++ [(v, k + 1)]) := by
  subst hc
  exact ⟨A.F, A.I.look hy hv low (by rw [if_neg hno]) fun _ _ => rfl, A.G, A.S, A.K, A.C, A.V⟩
theorem mid_inj (F : FS H l dn i1 i2 i3 fo sv gv mid vis low stk grs) {y z : Iid} (hy : y ∈ vis) (hz : z ∈ vis) (e : mid y = mid z) : y = z := by
  have h1 := F.mrk y hy
  rw [e, F.mrk z hz] at h1
  simp at h1
  exact Tar.idx_inj hy (by omega)
/-- A mark turns. -/
theorem FS.mark (F : FS H l dn i1 i2 i3 fo sv gv mid vis low stk grs) {v : Iid} (hv : v ∈ vis) {low' : Iid → Nat} (hlo : ∀ y, y ≠ v → low' y = low y) {o : AObj} (ho : o = .cells [iv (vis.idxOf v : Nat), iv (low' v : Nat), .bool (decide (v ∈ stk))]) :
    FS (H.set (mid v) o) l dn i1 i2 i3 fo sv gv mid vis low' stk grs ∧ Kp H (H.set (mid v) o) (own i3 fo sv gv mid vis) (own i3 fo sv gv mid vis) := by
  subst ho
  have hlt := get_lt (F.mrk v hv)
  have hnd := F.nd
  rw [List.nodup_cons, List.nodup_append] at hnd
  obtain ⟨d1, d2, d3, d4⟩ := hnd
  have hin : mid v ∈ vis.map mid := List.mem_map.2 ⟨v, hv, rfl⟩
  have hne : ∀ id, id ≠ mid v → (H.set (mid v) (.cells [iv (vis.idxOf v : Nat), iv (low' v : Nat), .bool (decide (v ∈ stk))]))[id]? = H[id]? := fun id h => List.getElem?_set_ne (Ne.symm h)
  exact F.upd (H' := H.set (mid v) (.cells [iv (vis.idxOf v : Nat), iv (low' v : Nat), .bool (decide (v ∈ stk))])) (sv' := sv) (gv' := gv) (low' := low') (stk' := stk) (grs' := grs) (by simp) rfl
    (by rw [hne _ (fun e => d1 (by rw [e]; exact List.mem_append.2 (.inr hin)))]; exact F.obj)
    (F.st.keep fun id h => hne id fun e => d4 id (List.mem_append.2 (.inl h)) (mid v) hin e)
    (F.gr.keep fun id h => hne id fun e => d4 id (List.mem_append.2 (.inr h)) (mid v) hin e) (.inl rfl)
    (fun y hy => by
      by_cases e : y = v
      · subst e; exact List.getElem?_set_self hlt
      · rw [hne _ (fun h => e (mid_inj F hy hv h)), F.mrk y hy, hlo y e])
    (fun id _ _ _ _ h => hne id fun e => h (e ▸ hin))
theorem At.mark (A : At H0 H O0 l dn i1 i2 i3 fo vis0 sv gv mid vis low stk grs calls) {v : Iid} (hv : v ∈ vis) {low' : Iid → Nat} {calls' : List (Iid × Nat)} (hlo : ∀ y, y ≠ v → low' y = low y) (I' : Tar.Inv (dpOf l) (dnB dn) vis low' stk calls') {o : AObj} (ho : o = .cells [iv (vis.idxOf v : Nat), iv (low' v : Nat), .bool (decide (v ∈ stk))]) :
    At H0 (H.set (mid v) o) O0 l dn i1 i2 i3 fo vis0 sv gv mid vis low' stk grs calls' := by
  obtain ⟨F', K'⟩ := A.F.mark hv hlo ho
  exact ⟨F', I', A.G, A.S, A.K.trans K', A.C, A.V⟩
/-- A node is left: what holds ahead of its end. -/
structure Pop (H0 H : AHeap) (O0 : List Nat) (l : List Nod) (dn : List Iid) (i1 i2 i3 fo : Nat) (vis0 : List Iid) (sv gv : AV) (mid : Iid → Nat) (vis : List Iid) (low : Iid → Nat) (stk : List Iid) (grs : List (List Iid)) (B : List (Iid × Nat)) (v : Iid) : Prop where
  F : FS H l dn i1 i2 i3 fo sv gv mid vis low stk grs
  I0 : B = [] → Tar.Inv (dpOf l) (dnB dn) vis low stk B
  I : ∀ B' u m, B = B' ++ [(u, m)] → ∀ low' : Iid → Nat, low' u = min (low u) (low v) → (∀ y, y ≠ u → low' y = low y) → Tar.Inv (dpOf l) (dnB dn) vis low' stk B
  G : Tar.Found (dpOf l) (dnB dn) vis stk grs
  S : ∀ g ∈ grs, g.Pairwise fun a b => keyC l a b = true
  K : Kp H0 H O0 (own i3 fo sv gv mid vis)
  C : ∀ x ∈ vis, CanDo l dn x
  V : ∀ x ∈ vis0, x ∈ vis
  sub : ∀ u ∈ Tar.names B, u ∈ vis
theorem At.pop (A : At H0 H O0 l dn i1 i2 i3 fo vis0 sv gv mid vis low stk grs calls) {B : List (Iid × Nat)} {v : Iid} {k : Nat} (hc : calls = B ++ [(v, k)]) (hk : k = (dpOf l v).length) (hlo : low v ≠ vis.idxOf v) : Pop H0 H O0 l dn i1 i2 i3 fo vis0 sv gv mid vis low stk grs B v := by
  subst hc
  refine ⟨A.F, fun e => ?_, fun B' u m e low' h1 h2 => ?_, A.G, A.S, A.K, A.C, A.V, fun u hu => A.I.sub u (A.I.psub u (by simp [Tar.names] at hu ⊢; exact .inl hu))⟩
  · subst e
    have hv : v ∈ stk := A.I.psub v (by simp [Tar.names])
    obtain ⟨w, hw, h1, _⟩ := A.I.lowrt v hv
    have h2 := A.I.lowle v hv
    have h3 : w ≠ v := fun e => by subst e; omega
    obtain ⟨p, hp, h4, _⟩ := A.I.up w hw (by simpa [Tar.names] using h3)
    simp [Tar.names] at hp
    subst hp
    omega
  · subst e
    exact A.I.leave hk hlo low' h1 h2
theorem Pop.mark {v' : Iid} (A : Pop H0 H O0 l dn i1 i2 i3 fo vis0 sv gv mid vis low stk grs calls v') {B' : List (Iid × Nat)} {u : Iid} {m : Nat} (hc : calls = B' ++ [(u, m)]) {low' : Iid → Nat} (hl : low' u = min (low u) (low v')) (hlo : ∀ y, y ≠ u → low' y = low y) {o : AObj} (ho : o = .cells [iv (vis.idxOf u : Nat), iv (low' u : Nat), .bool (decide (u ∈ stk))]) :
    At H0 (H.set (mid u) o) O0 l dn i1 i2 i3 fo vis0 sv gv mid vis low' stk grs calls := by
  obtain ⟨F', K'⟩ := A.F.mark (A.sub u (by rw [hc]; simp [Tar.names])) hlo ho
  exact ⟨F', A.I B' u m hc low' hl hlo, A.G, A.S, A.K.trans K', A.C, A.V⟩
/-- A group was closed. -/
theorem At.closed (A : At H0 H O0 l dn i1 i2 i3 fo vis0 sv gv mid vis low stk grs calls) {B : List (Iid × Nat)} {v : Iid} {k : Nat} {S1 S2 : List Iid} (hc : calls = B ++ [(v, k)]) (hs : stk = S1 ++ v :: S2) (hk : k = (dpOf l v).length) (hlo : low v = vis.idxOf v) {H' : AHeap} {sv' gv' : AV}
    (F' : FS H' l dn i1 i2 i3 fo sv' gv' mid vis low S1 (grs ++ [srtC l (v :: S2)])) (K' : Kp H H' (own i3 fo sv gv mid vis) (own i3 fo sv' gv' mid vis)) : Pop H0 H' O0 l dn i1 i2 i3 fo vis0 sv' gv' mid vis low S1 (grs ++ [srtC l (v :: S2)]) B v := by
  have hnd := (stk_len A).2
  subst hc
  subst hs
  obtain ⟨I', hg⟩ := A.I.close hk hlo
  have hperm := srtC_perm l (v :: S2)
  have hnd2 : (v :: S2).Nodup := by rw [List.nodup_append] at hnd; exact hnd.2.1
  refine ⟨F', fun _ => I', fun B' u m e low' h1 h2 => ?_, A.G.close (fun x hx => A.I.sub x hx) hnd hg hperm (fun x hx y hy => I'.closed x (A.I.sub x (List.mem_append.2 (.inr hx))) (fun h => ?_) y hy), fun g hg => ?_, A.K.trans K', A.C, A.V, fun u hu => A.I.sub u (A.I.psub u (by simp [Tar.names] at hu ⊢; exact .inl hu))⟩
  · subst e
    have hab := A.I.above u (by simp [Tar.names])
    have hu : u ∈ S1 ++ v :: S2 := A.I.psub u (by simp [Tar.names])
    have h3 := A.I.lowle u hu
    have : low' = low := funext fun y => by
      by_cases e : y = u
      · subst e; rw [h1, hlo]; omega
      · exact h2 y e
    rw [this]
    exact I'
  · rw [List.nodup_append] at hnd
    exact hnd.2.2 x h x hx rfl
  · rcases List.mem_append.1 hg with h | h
    · exact A.S g h
    · simp at h; subst h; exact srtC_pw l _ hnd2
theorem CallsAt.mark {cb cc : Nat} (C : CallsAt H cb cc calls) {m : Nat} (hm : cb ≠ m) (o : AObj) : CallsAt (H.set m o) cb cc calls := C.keep (List.getElem?_set_ne (Ne.symm hm))
theorem own_mid {y : Iid} (hy : y ∈ vis) : mid y ∈ own i3 fo sv gv mid vis := by
  simp only [own, List.mem_cons, List.mem_append]
  exact .inr (.inr (.inr (List.mem_map.2 ⟨y, hy, rfl⟩)))
end
end Go.Proofs.Ytajgeofhlgoifaa.G
