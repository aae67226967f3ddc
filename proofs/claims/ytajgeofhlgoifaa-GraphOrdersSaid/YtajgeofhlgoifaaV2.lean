/- The abstract heap, and how it stands for the model's world. No program is named here. -/
import Derived.Test.YtajgeofhlgoifaaV1
import Derived.Deep.MidRow
import Derived.RangeFuncOwn
set_option linter.unusedVariables false
set_option linter.unusedSimpArgs false
namespace Go.Proofs.Ytajgeofhlgoifaa.V
open Go Go.RowKit

inductive AObj where
  | dead
  | cells (cs : List AV)
  | fixed (cs : List AV)
  | tail (e : TypeId) (k : Nat)
  | map (es : List (AV × AV × Nat)) (clock : Nat)
  | iter (m since last : Nat) (seen : List Nat)
  | tab (b : Nat) (vs : List Value)
  | rmap (es : List (AV × AV × Nat)) (clock : Nat)
instance : Inhabited AObj := ⟨.dead⟩
abbrev AHeap := List AObj

def Spot.block : Spot → Option Nat
  | .blk b => some b
  | .tail v => v.ownBlock
  | .loose _ => none

def CellsRel (g : Ghost) (cs : List AV) (vs : List Value) : Prop := cs.length = vs.length ∧ ∀ i (h : i < cs.length) (h' : i < vs.length), VRel g cs[i] vs[i]
def EntryRel (g : Ghost) (a : AV × AV × Nat) (e : MapEntry) : Prop := VRel g a.1 e.key ∧ VRel g a.2.1 e.val ∧ a.2.2 = e.born

def ORel (base : Nat) (g : Ghost) (w : World) : Spot → AObj → Prop
  | _, .dead => True
  | .blk b, .cells cs => base ≤ b ∧ (∃ vs t, w.heap[b]? = some (.cells vs t (0, 0)) ∧ CellsRel g cs vs.toList) ∧ ∀ o, g.imm b o = none
  | .blk b, .fixed cs => base ≤ b ∧ b < w.heap.size ∧ ∃ u : Nat → Value, ∀ i (h : i < cs.length), g.imm b i = some (u i) ∧ VRel g cs[i] (u i)
  | .tail v, .tail e k => ∃ b n cap cur, v = .slice (some ⟨b, 0, none⟩) n cap ∧ base ≤ b ∧ w.heap[b]? = some (.cells cur e (0, 0)) ∧ n ≤ cap ∧ cap ≤ maxLen ∧ cur.size = cap * k ∧ ∀ o, n * k ≤ o → g.imm b o = none
  | .loose v, .tail e k => ∃ a n, v = .slice a n n
  | .blk b, .map es clock => base ≤ b ∧ ∃ ces, w.heap[b]? = some (.map ces clock) ∧ es.length = ces.size ∧ ∀ i (h : i < es.length) (h' : i < ces.size), EntryRel g es[i] ces[i]
  | .blk b, .iter m since last seen => base ≤ b ∧ m < g.n ∧ ∃ mb, g.at_ m = .blk mb ∧ w.heap[b]? = some (.mapIter (some mb) since seen.toArray last)
  | .loose _, .tab b vs => b < base ∧ ∃ t fr, w.heap[b]? = some (.cells vs.toArray t fr)
  | .blk b, .rmap es clock => ∃ ces, w.heap[b]? = some (.map ces clock) ∧ es.length = ces.size ∧ ∀ i (h : i < es.length) (h' : i < ces.size), EntryRel g es[i] ces[i]
  | _, _ => False

structure Sim (w0 : World) (g : Ghost) (h : AHeap) (w : World) : Prop where
  below : Below w0.heap.size w0 w
  n : h.length = g.n
  imm : ∀ b o v, g.imm b o = some v → w.cell? ⟨b, o, none⟩ = some v
  soft : ∀ b o n, g.imm b o = some (.int .i64 n) → w.frozen? ⟨b, o, none⟩ = false
  obj : ∀ id o, h[id]? = some o → ORel w0.heap.size g w (g.at_ id) o
  sep : ∀ i j oi oj b, h[i]? = some oi → h[j]? = some oj → oi ≠ .dead → oj ≠ .dead → (g.at_ i).block = some b → (g.at_ j).block = some b → i = j
  pin : ∀ b o, g.pin b = some o → (w.heap[b]? = some o ∧ o.isCells = false) ∧ w0.heap.size ≤ b
  free : ∀ id o b, h[id]? = some o → o ≠ .dead → (g.at_ id).block = some b → g.pin b = none
  b0 : g.b0 ≤ w.heap.size
  drawn : w0.drawn ≤ w.drawn

theorem CellsRel.mono {g g' : Ghost} (l : g.le g') {cs : List AV} {vs : List Value} (h : CellsRel g cs vs) : CellsRel g' cs vs := ⟨h.1, fun i a b => (h.2 i a b).mono l⟩

/-- What may lie below the base. -/
def AObj.low : AObj → Bool
  | .rmap _ _ => true
  | _ => false
/-- A live object's block is there. -/
theorem ORel.block_lt {base : Nat} {g : Ghost} {w : World} {s : Spot} {o : AObj} (h : ORel base g w s o) (hd : o ≠ .dead) {b : Nat} (hb : s.block = some b) : (o.low = false → base ≤ b) ∧ b < w.heap.size := by
  cases o with
  | dead => exact absurd rfl hd
  | cells cs => cases s with
    | blk b => injection hb with hb; subst hb; obtain ⟨h1, ⟨vs, t, h2, _⟩, _⟩ := h; exact ⟨fun _ => h1, (Array.getElem?_eq_some_iff.1 h2).1⟩
    | tail v => exact h.elim
    | loose v => exact h.elim
  | fixed cs => cases s with
    | blk b => injection hb with hb; subst hb; exact ⟨fun _ => h.1, h.2.1⟩
    | tail v => exact h.elim
    | loose v => exact h.elim
  | tail e k => cases s with
    | blk b => exact h.elim
    | tail v => obtain ⟨b', n, cap, cur, rfl, h1, h2, _⟩ := h; injection hb with hb; subst hb; exact ⟨fun _ => h1, (Array.getElem?_eq_some_iff.1 h2).1⟩
    | loose v => cases hb
  | map es c => cases s with
    | blk b => injection hb with hb; subst hb; obtain ⟨h1, ces, h2, _⟩ := h; exact ⟨fun _ => h1, (Array.getElem?_eq_some_iff.1 h2).1⟩
    | tail v => exact h.elim
    | loose v => exact h.elim
  | iter m s1 l1 q => cases s with
    | blk b => injection hb with hb; subst hb; obtain ⟨h1, _, mb, _, h2⟩ := h; exact ⟨fun _ => h1, (Array.getElem?_eq_some_iff.1 h2).1⟩
    | tail v => exact h.elim
    | loose v => exact h.elim
  | tab c vs => cases s with
    | blk b => exact h.elim
    | tail v => exact h.elim
    | loose v => cases hb
  | rmap es c => cases s with
    | blk b => injection hb with hb; subst hb; obtain ⟨ces, h2, _⟩ := h; exact ⟨fun e => (by cases e), (Array.getElem?_eq_some_iff.1 h2).1⟩
    | tail v => exact h.elim
    | loose v => exact h.elim

/-- An object stands on, if its block is as it was, and no new fixed cell lies in it. -/
theorem ORel.keep {base : Nat} {g g' : Ghost} {w w' : World} {s : Spot} {o : AObj} (h : ORel base g w s o) (l : g.le g') (hsz : w.heap.size ≤ w'.heap.size)
    (hlow : ∀ k, k < base → w'.heap[k]? = w.heap[k]?) (hb : o ≠ .dead → ∀ b, s.block = some b → w'.heap[b]? = w.heap[b]? ∧ ∀ i, g'.imm b i = g.imm b i) : ORel base g' w' s o := by
  cases o with
  | dead => trivial
  | cells cs => cases s with
    | blk b =>
      obtain ⟨h1, ⟨vs, t, h2, h3⟩, h4⟩ := h
      obtain ⟨e1, e2⟩ := hb (by simp) b rfl
      exact ⟨h1, ⟨vs, t, e1.trans h2, h3.mono l⟩, fun i => (e2 i).trans (h4 i)⟩
    | tail v => exact h.elim
    | loose v => exact h.elim
  | fixed cs => cases s with
    | blk b =>
      obtain ⟨h1, h2, u, h3⟩ := h
      exact ⟨h1, Nat.lt_of_lt_of_le h2 hsz, u, fun i hi => ⟨l.imm _ _ _ (h3 i hi).1, (h3 i hi).2.mono l⟩⟩
    | tail v => exact h.elim
    | loose v => exact h.elim
  | tail e k => cases s with
    | blk b => exact h.elim
    | tail v =>
      obtain ⟨b, n, cap, cur, rfl, h1, h2, h3, h4, h5, h6⟩ := h
      obtain ⟨e1, e2⟩ := hb (by simp) b rfl
      exact ⟨b, n, cap, cur, rfl, h1, e1.trans h2, h3, h4, h5, fun o ho => (e2 o).trans (h6 o ho)⟩
    | loose v => exact h
  | map es c => cases s with
    | blk b =>
      obtain ⟨h1, ces, h2, h3, h4⟩ := h
      obtain ⟨e1, e2⟩ := hb (by simp) b rfl
      exact ⟨h1, ces, e1.trans h2, h3, fun i a b => ⟨(h4 i a b).1.mono l, (h4 i a b).2.1.mono l, (h4 i a b).2.2⟩⟩
    | tail v => exact h.elim
    | loose v => exact h.elim
  | iter m s1 l1 q => cases s with
    | blk b =>
      obtain ⟨h1, h2, mb, h3, h4⟩ := h
      obtain ⟨e1, e2⟩ := hb (by simp) b rfl
      exact ⟨h1, Nat.lt_of_lt_of_le h2 l.n, mb, (l.at_ m h2).trans h3, e1.trans h4⟩
    | tail v => exact h.elim
    | loose v => exact h.elim
  | tab c vs => cases s with
    | blk b => exact h.elim
    | tail v => exact h.elim
    | loose v => obtain ⟨h1, t, fr, h2⟩ := h; exact ⟨h1, t, fr, (hlow c h1).trans h2⟩
  | rmap es c => cases s with
    | blk b =>
      obtain ⟨ces, h2, h3, h4⟩ := h
      obtain ⟨e1, e2⟩ := hb (by simp) b rfl
      exact ⟨ces, e1.trans h2, h3, fun i a b => ⟨(h4 i a b).1.mono l, (h4 i a b).2.1.mono l, (h4 i a b).2.2⟩⟩
    | tail v => exact h.elim
    | loose v => exact h.elim

section
variable {w0 w w' : World} {g : Ghost} {h : AHeap}
theorem Sim.block_lt (S : Sim w0 g h w) {id : Nat} {o : AObj} (ho : h[id]? = some o) (hd : o ≠ .dead) {b : Nat} (hb : (g.at_ id).block = some b) : (o.low = false → w0.heap.size ≤ b) ∧ b < w.heap.size := by
  exact (S.obj id o ho).block_lt hd hb
theorem Sim.imm_lt (S : Sim w0 g h w) {b o : Nat} {v : Value} (e : g.imm b o = some v) : b < w.heap.size := World.block_lt_of_cell? w _ (S.imm b o v e)
theorem Sim.pin_lt (S : Sim w0 g h w) {b : Nat} {o : Obj} (e : g.pin b = some o) : b < w.heap.size := (Array.getElem?_eq_some_iff.1 (S.pin b o e).1.1).1
theorem Sim.fresh_pin (S : Sim w0 g h w) {b : Nat} (hb : w.heap.size ≤ b) : g.pin b = none := by
  cases e : g.pin b with
  | none => rfl
  | some o => have := S.pin_lt e; omega
theorem Sim.pin_cells (S : Sim w0 g h w) {b : Nat} {vs : Array Value} {t : TypeId} {fr : Nat × Nat} (e : w.heap[b]? = some (.cells vs t fr)) : g.pin b = none := by
  cases ep : g.pin b with
  | none => rfl
  | some o =>
    obtain ⟨⟨h1, h2⟩, _⟩ := S.pin b o ep
    rw [e] at h1; injection h1 with h1; subst h1; cases h2
/-- The world grows; nothing that was there turns. -/
theorem frozen_no {w : World} {b i : Nat} {vs : Array Value} {t : TypeId} (e : w.heap[b]? = some (.cells vs t (0, 0))) : w.frozen? ⟨b, i, none⟩ = false := by
  unfold World.frozen?
  simp only [e]
  simp
theorem frozen_block {w w' : World} {a : Addr} (e : w'.heap[a.block]? = w.heap[a.block]?) : w'.frozen? a = w.frozen? a := by
  unfold World.frozen?
  rw [e]
theorem Sim.keep (S : Sim w0 g h w) (hb : Below w.heap.size w w') (hdr : w.drawn ≤ w'.drawn := by first | exact Nat.le_refl _ | exact Nat.le_succ _ | simp | (simp; omega)) : Sim w0 g h w' := by
  refine ⟨S.below.trans (hb.mono S.below.size), S.n, fun b o v e => ?_, fun b o n e => by rw [frozen_block (hb.block b (S.imm_lt e))]; exact S.soft b o n e, fun id o ho => ?_, S.sep, fun b o e => by rw [hb.block b (S.pin_lt e)]; exact S.pin b o e, S.free, Nat.le_trans S.b0 hb.size, Nat.le_trans S.drawn hdr⟩
  · rw [hb.cell (S.imm_lt e)]; exact S.imm b o v e
  · exact (S.obj id o ho).keep (Ghost.le.refl g) hb.size (fun k hk => hb.block k (Nat.lt_of_lt_of_le hk S.below.size)) fun hd b hbb => ⟨hb.block b (S.block_lt ho hd hbb).2, fun _ => rfl⟩
theorem Sim.drew (S : Sim w0 g h w) : Sim w0 g h w.drew := S.keep (Below.refl _ _).drew

/-! New fixed cells: block b, from lo to m. -/
def Ghost.fix (g : Ghost) (b lo m : Nat) (u : Nat → Value) : Ghost := { g with imm := fun b' o => if b' = b ∧ lo ≤ o ∧ o < m then some (u o) else g.imm b' o }
theorem Ghost.fix_le {g : Ghost} {b lo m : Nat} {u : Nat → Value} (hn : ∀ o v, g.imm b o = some v → lo ≤ o → o < m → v = u o) : g.le (g.fix b lo m u) :=
  ⟨Nat.le_refl _, fun _ _ => rfl, fun b' o v e => by
    simp only [Ghost.fix]
    split
    · rename_i hh; rw [hh.1] at e; rw [hn o v e hh.2.1 hh.2.2]
    · exact e, fun _ _ e => e, rfl⟩
theorem Ghost.fix_at {g : Ghost} {b lo m : Nat} {u : Nat → Value} {o : Nat} (hl : lo ≤ o) (ho : o < m) : (g.fix b lo m u).imm b o = some (u o) := by simp [Ghost.fix, ho, hl]
theorem Ghost.fix_other {g : Ghost} {b lo m : Nat} {u : Nat → Value} {b' o : Nat} (hb : b' ≠ b) : (g.fix b lo m u).imm b' o = g.imm b' o := by simp [Ghost.fix, hb]
theorem Ghost.fix_past {g : Ghost} {b lo m : Nat} {u : Nat → Value} {o : Nat} (ho : m ≤ o) : (g.fix b lo m u).imm b o = g.imm b o := by simp [Ghost.fix]; omega
theorem Sim.fresh_imm (S : Sim w0 g h w) {b : Nat} (hb : w.heap.size ≤ b) (o : Nat) : g.imm b o = none := by
  cases e : g.imm b o with
  | none => rfl
  | some v => have := S.imm_lt e; omega
/-- A block that nothing owns holds cells that stay. -/
theorem Sim.fix (S : Sim w0 g h w) {b lo m : Nat} {u : Nat → Value} (hu : ∀ i, lo ≤ i → i < m → w.cell? ⟨b, i, none⟩ = some (u i)) (hz : ∀ i n, lo ≤ i → i < m → u i = .int .i64 n → w.frozen? ⟨b, i, none⟩ = false) (hown : ∀ id o, h[id]? = some o → o ≠ .dead → (g.at_ id).block ≠ some b) :
    g.le (g.fix b lo m u) ∧ Sim w0 (g.fix b lo m u) h w := by
  have l : g.le (g.fix b lo m u) := Ghost.fix_le fun o v e hl ho => by
    have h1 := S.imm b o v e
    rw [hu o hl ho] at h1
    injection h1 with h1
    exact h1.symm
  refine ⟨l, S.below, S.n, fun b' o v e => ?_, fun b' o n e => ?_, fun id o ho => ?_, S.sep, S.pin, S.free, S.b0, S.drawn⟩
  · simp only [Ghost.fix] at e
    split at e
    · rename_i hh
      injection e with e
      rw [hh.1, hu o hh.2.1 hh.2.2, e]
    · exact S.imm b' o v e
  · simp only [Ghost.fix] at e
    split at e
    · rename_i hh
      injection e with e
      rw [hh.1]; exact hz o n hh.2.1 hh.2.2 e
    · exact S.soft b' o n e
  · refine (S.obj id o ho).keep l (Nat.le_refl _) (fun _ _ => rfl) fun hd b' hb' => ⟨rfl, fun i => Ghost.fix_other fun e => ?_⟩
    subst e
    exact hown id o ho hd hb'

/-! A new object. -/
def Ghost.push (g : Ghost) (s : Spot) : Ghost := { g with n := g.n + 1, at_ := fun i => if i = g.n then s else g.at_ i }
theorem Ghost.push_le (g : Ghost) (s : Spot) : g.le (g.push s) := ⟨Nat.le_succ _, fun i hi => by simp [Ghost.push, Nat.ne_of_lt hi], fun _ _ _ e => e, fun _ _ e => e, rfl⟩
theorem Ghost.push_at (g : Ghost) (s : Spot) : (g.push s).at_ g.n = s := by simp [Ghost.push]
theorem Ghost.push_old (g : Ghost) (s : Spot) {i : Nat} (hi : i < g.n) : (g.push s).at_ i = g.at_ i := by simp [Ghost.push, Nat.ne_of_lt hi]
theorem get_old {h : AHeap} {o' : AObj} {id : Nat} {o : AObj} (e : (h ++ [o'])[id]? = some o) : (id < h.length ∧ h[id]? = some o) ∨ (id = h.length ∧ o = o') := by
  rcases Nat.lt_trichotomy id h.length with hl | hl | hl
  · rw [List.getElem?_append_left hl] at e; exact .inl ⟨hl, e⟩
  · subst hl; simp at e; exact .inr ⟨rfl, e.symm⟩
  · rw [List.getElem?_append_right (Nat.le_of_lt hl)] at e
    have : id - h.length ≠ 0 := by omega
    cases hk : id - h.length with
    | zero => omega
    | succ k => rw [hk] at e; simp at e
theorem Sim.push (S : Sim w0 g h w) {s : Spot} {o : AObj} (ho : ORel w0.heap.size (g.push s) w s o) (hown : ∀ id o', h[id]? = some o' → o' ≠ .dead → ∀ b, s.block = some b → (g.at_ id).block ≠ some b) (hpin : ∀ b, s.block = some b → g.pin b = none) :
    Sim w0 (g.push s) (h ++ [o]) w := by
  have at' : ∀ id, id < h.length → (g.push s).at_ id = g.at_ id := fun id hi => Ghost.push_old g s (by rw [← S.n]; exact hi)
  refine ⟨S.below, by simp [Ghost.push, S.n], S.imm, S.soft, fun id o' ho' => ?_, fun i j oi oj b hi hj di dj bi bj => ?_, S.pin, fun id o' b ho' hd hb => ?_, S.b0, S.drawn⟩
  · rcases get_old ho' with ⟨hl, e⟩ | ⟨rfl, rfl⟩
    · rw [at' id hl]
      exact (S.obj id o' e).keep (Ghost.push_le g s) (Nat.le_refl _) (fun _ _ => rfl) fun _ b _ => ⟨rfl, fun _ => rfl⟩
    · rw [S.n, Ghost.push_at]; exact ho
  · rcases get_old hi with ⟨hl, e⟩ | ⟨rfl, rfl⟩ <;> rcases get_old hj with ⟨hl', e'⟩ | ⟨rfl, rfl⟩
    · rw [at' i hl] at bi; rw [at' j hl'] at bj; exact S.sep i j oi oj b e e' di dj bi bj
    · rw [at' i hl] at bi; rw [S.n, Ghost.push_at] at bj; exact absurd bi (hown i oi e di b bj)
    · rw [S.n, Ghost.push_at] at bi; rw [at' j hl'] at bj; exact absurd bj (hown j oj e' dj b bi)
    · rfl
  · rcases get_old ho' with ⟨hl, e⟩ | ⟨rfl, rfl⟩
    · rw [at' id hl] at hb; exact S.free id o' b e hd hb
    · rw [S.n, Ghost.push_at] at hb; exact hpin b hb
/-- A new block of the heap is nobody's. -/
theorem Sim.fresh (S : Sim w0 g h w) {b : Nat} (hb : w.heap.size ≤ b) : ∀ id o, h[id]? = some o → o ≠ .dead → (g.at_ id).block ≠ some b := fun id o ho hd e => by
  have := (S.block_lt ho hd e).2; omega

/-! An object turns. -/
theorem Sim.turn (S : Sim w0 g h w) {id b : Nat} {o o' : AObj} (ho : h[id]? = some o) (hd : o ≠ .dead) (hbk : (g.at_ id).block = some b)
    (hsz : w.heap.size ≤ w'.heap.size) (hos : w'.os = w.os) (htape : w'.tape = w.tape) (hout : w'.output = w.output) (hold : ∀ k, k < w.heap.size → k ≠ b → w'.heap[k]? = w.heap[k]?)
    (himm : ∀ o v, g.imm b o = some v → w'.cell? ⟨b, o, none⟩ = some v) (hz : ∀ o n, g.imm b o = some (.int .i64 n) → w'.frozen? ⟨b, o, none⟩ = false) (hnew : ORel w0.heap.size g w' (g.at_ id) o') (hdr : w.drawn ≤ w'.drawn := by first | exact Nat.le_refl _ | exact Nat.le_succ _ | simp | (simp; omega)) (hlo : o.low = false := by rfl) : Sim w0 g (h.set id o') w' := by
  have hlt : id < h.length := (List.getElem?_eq_some_iff.1 ho).1
  have hbb := (S.block_lt ho hd hbk).1 hlo
  refine ⟨S.below.trans ⟨hos, htape, hout, hsz, fun k hk => hold k (by have := S.below.size; omega) (by omega)⟩, by simp [S.n], fun b' off v e => ?_, fun b' off n e => ?_, fun i x hx => ?_, fun i j oi oj c hi hj di dj bi bj => ?_, fun b' o e => ?_, fun i oi c hi di bi => ?_, Nat.le_trans S.b0 hsz, Nat.le_trans S.drawn hdr⟩
  · by_cases hb' : b' = b
    · subst hb'; exact himm off v e
    · rw [World.cell?_of_block (w := w) (a := ⟨b', off, none⟩) (hold b' (S.imm_lt e) hb')]; exact S.imm b' off v e
  · by_cases hb' : b' = b
    · subst hb'; exact hz off n e
    · rw [frozen_block (w := w) (a := ⟨b', off, none⟩) (hold b' (S.imm_lt e) hb')]; exact S.soft b' off n e
  · rw [List.getElem?_set] at hx
    split at hx
    · rename_i hi
      subst hi
      injection hx with hx
      subst hx
      exact hnew
    · rename_i hi
      refine (S.obj i x hx).keep (Ghost.le.refl g) hsz (fun k hk => hold k (by have := S.below.size; omega) (by omega)) fun hdx b' hb' => ⟨hold b' (S.block_lt hx hdx hb').2 fun e => ?_, fun _ => rfl⟩
      subst e
      exact hi (S.sep id i o x b' ho hx hd hdx hbk hb')
  · have key : ∀ (i : Nat) (oi : AObj), (h.set id o')[i]? = some oi → oi ≠ .dead → ∃ p : AObj, h[i]? = some p ∧ p ≠ .dead := fun i oi hi di => by
      rw [List.getElem?_set] at hi
      split at hi
      · rename_i e; subst e; exact ⟨o, ho, hd⟩
      · exact ⟨oi, hi, di⟩
    obtain ⟨p, hp, dp⟩ := key i oi hi di
    obtain ⟨q, hq, dq⟩ := key j oj hj dj
    exact S.sep i j p q c hp hq dp dq bi bj
  · rw [hold b' (S.pin_lt e) (fun hh => by subst hh; rw [S.free id _ b' ho hd hbk] at e; cases e)]; exact S.pin b' o e
  · rw [List.getElem?_set] at hi
    split at hi
    · rename_i e; subst e; exact S.free id o c ho hd bi
    · exact S.free i oi c hi di bi

/-! What is behind place n is forgotten. -/
def Ghost.cut (g : Ghost) (n : Nat) : Ghost := { g with n := n }
end

inductive Bel (n : Nat) : AV → Prop
  | undef : Bel n .undef
  | bool (b : Bool) : Bel n (.bool b)
  | int (k : IntKind) (z : Int) : Bel n (.int k z)
  | str (s : List UInt8) : Bel n (.str s)
  | nilptr : Bel n .nilptr
  | nilmap : Bel n .nilmap
  | nilfunc : Bel n .nilfunc
  | niliface : Bel n .niliface
  | ptr (id off : Nat) (hi : id < n) : Bel n (.ptr id off)
  | ref (cs : List AV) (off : Nat) (h : ∀ i (h : i < cs.length), Bel n cs[i]) : Bel n (.ref cs off)
  | arr (id off m c : Nat) (hi : id < n) : Bel n (.arr id off m c)
  | map (id : Nat) (hi : id < n) : Bel n (.map id)
  | list (xs : List AV) (t : Tok) (ht : ∀ id, t = .own id → id < n) (h : ∀ j (h : j < xs.length) i (h' : i < xs[j].cells.length), Bel n xs[j].cells[i]) : Bel n (.list xs t)
  | func (fn : Fn) (first captured : List AV) (h1 : ∀ i (h : i < first.length), Bel n first[i]) (h2 : ∀ i (h : i < captured.length), Bel n captured[i]) : Bel n (.func fn first captured)
  | iface (t : TypeId) (v : AV) (h : Bel n v) : Bel n (.iface t v)
  | agg (cs : List AV) (h : ∀ i (h : i < cs.length), Bel n cs[i]) : Bel n (.agg cs)
  | tuple (cs : List AV) (h : ∀ i (h : i < cs.length), Bel n cs[i]) : Bel n (.tuple cs)

theorem VRel.bel {g : Ghost} {x : AV} {v : Value} (h : VRel g x v) : Bel g.n x := by
  induction h with
  | undef v => exact .undef
  | bool b => exact .bool b
  | int k n => exact .int k n
  | str s => exact .str s
  | nilptr => exact .nilptr
  | nilmap => exact .nilmap
  | nilfunc => exact .nilfunc
  | niliface => exact .niliface
  | ptr id off b hi hb => exact .ptr id off hi
  | ref cs off b o u h1 h2 ih => exact .ref cs off ih
  | arr id off n c b o hi hb hc hm ho => exact .arr id off n c hi
  | map id b hi hb => exact .map id hi
  | list xs t a c k b o u hc hm hn hk ha h1 h2 ht ih => exact .list xs t (fun id e => by subst e; exact ht.1) ih
  | func fn first captured f c hf hc h1 h2 ih1 ih2 => exact .func fn first captured (fun i hi => ih1 i hi (by omega)) (fun i hi => ih2 i hi (by omega))
  | iface t v x _ ih => exact .iface t v ih
  | agg cs vs hl _ ih => exact .agg cs (fun i hi => ih i hi (by omega))
  | tuple cs vs hl _ ih => exact .tuple cs (fun i hi => ih i hi (by omega))

theorem VRel.cut {g : Ghost} {n : Nat} {x : AV} {v : Value} (hb : Bel n x) (h : VRel g x v) : VRel (g.cut n) x v := by
  induction hb generalizing v with
  | undef => exact .undef v
  | bool b => cases h; exact .bool b
  | int k z => cases h; exact .int k z
  | str s => cases h; exact .str s
  | nilptr => cases h; exact .nilptr
  | nilmap => cases h; exact .nilmap
  | nilfunc => cases h; exact .nilfunc
  | niliface => cases h; exact .niliface
  | ptr id off hi => cases h with | ptr _ _ b h1 h2 => exact .ptr id off b hi h2
  | ref cs off _ ih => cases h with | ref _ _ b o u h1 h2 => exact .ref cs off b o u h1 fun i hi => ih i hi (h2 i hi)
  | arr id off m c hi => cases h with | arr _ _ _ _ b o h1 h2 h3 h4 h5 => exact .arr id off m c b o hi h2 h3 h4 h5
  | map id hi => cases h with | map _ b h1 h2 => exact .map id b hi h2
  | list xs t ht _ ih => cases h with
    | list _ _ a c k b o u hc hm hn hk ha h1 h2 htt =>
      refine .list xs t a c k b o u hc hm hn hk ha h1 (fun j hj i hi => ih j hj i hi (h2 j hj i hi)) ?_
      cases t with
      | no => trivial
      | full => exact htt
      | own id => exact ⟨ht id rfl, htt.2⟩
  | func fn first captured _ _ ih1 ih2 => cases h with
    | func _ _ _ f c hf hc h1 h2 => exact .func fn first captured f c hf hc (fun i a b => ih1 i a (h1 i a b)) (fun i a b => ih2 i a (h2 i a b))
  | iface t v _ ih => cases h with | iface _ _ x hh => exact .iface t v x (ih hh)
  | agg cs _ ih => cases h with | agg _ vs hl hh => exact .agg cs vs hl fun i a b => ih i a (hh i a b)
  | tuple cs _ ih => cases h with | tuple _ vs hl hh => exact .tuple cs vs hl fun i a b => ih i a (hh i a b)

theorem Bel.mono {n m : Nat} {x : AV} (h : Bel n x) (l : n ≤ m) : Bel m x := by
  induction h with
  | undef => exact .undef
  | bool b => exact .bool b
  | int k n => exact .int k n
  | str s => exact .str s
  | nilptr => exact .nilptr
  | nilmap => exact .nilmap
  | nilfunc => exact .nilfunc
  | niliface => exact .niliface
  | ptr id off hi => exact .ptr id off (Nat.lt_of_lt_of_le hi l)
  | ref cs off _ ih => exact .ref cs off ih
  | arr id off m c hi => exact .arr id off m c (Nat.lt_of_lt_of_le hi l)
  | map id hi => exact .map id (Nat.lt_of_lt_of_le hi l)
  | list xs t ht _ ih => exact .list xs t (fun id e => Nat.lt_of_lt_of_le (ht id e) l) ih
  | func fn a b _ _ i1 i2 => exact .func fn a b i1 i2
  | iface t v _ ih => exact .iface t v ih
  | agg cs _ ih => exact .agg cs ih
  | tuple cs _ ih => exact .tuple cs ih

def OBel (n : Nat) : AObj → Prop
  | .cells cs => ∀ i (h : i < cs.length), Bel n cs[i]
  | .fixed cs => ∀ i (h : i < cs.length), Bel n cs[i]
  | .map es _ => ∀ i (h : i < es.length), Bel n es[i].1 ∧ Bel n es[i].2.1
  | .rmap es _ => ∀ i (h : i < es.length), Bel n es[i].1 ∧ Bel n es[i].2.1
  | .iter m _ _ _ => m < n
  | _ => True
theorem ORel.bel {base : Nat} {g : Ghost} {w : World} {s : Spot} {o : AObj} (h : ORel base g w s o) : OBel g.n o := by
  cases o with
  | dead => trivial
  | tail e k => trivial
  | cells cs => cases s with
    | blk b => obtain ⟨_, ⟨vs, t, _, h3⟩, _⟩ := h; exact fun i hi => (h3.2 i hi (by have := h3.1; omega)).bel
    | tail v => exact h.elim
    | loose v => exact h.elim
  | fixed cs => cases s with
    | blk b => obtain ⟨_, _, u, h3⟩ := h; exact fun i hi => (h3 i hi).2.bel
    | tail v => exact h.elim
    | loose v => exact h.elim
  | map es c => cases s with
    | blk b => obtain ⟨_, ces, _, h3, h4⟩ := h; exact fun i hi => ⟨(h4 i hi (by omega)).1.bel, (h4 i hi (by omega)).2.1.bel⟩
    | tail v => exact h.elim
    | loose v => exact h.elim
  | iter m s1 l1 q => cases s with
    | blk b => exact h.2.1
    | tail v => exact h.elim
    | loose v => exact h.elim
  | tab c vs => trivial
  | rmap es c => cases s with
    | blk b => obtain ⟨ces, _, h3, h4⟩ := h; exact fun i hi => ⟨(h4 i hi (by omega)).1.bel, (h4 i hi (by omega)).2.1.bel⟩
    | tail v => exact h.elim
    | loose v => exact h.elim
theorem ORel.cut {base n : Nat} {g : Ghost} {w : World} {s : Spot} {o : AObj} (hb : OBel n o) (h : ORel base g w s o) : ORel base (g.cut n) w s o := by
  cases o with
  | dead => trivial
  | tail e k => cases s with
    | blk b => exact h.elim
    | tail v => exact h
    | loose v => exact h
  | cells cs => cases s with
    | blk b => obtain ⟨h1, ⟨vs, t, h2, h3⟩, h4⟩ := h; exact ⟨h1, ⟨vs, t, h2, h3.1, fun i a c => (h3.2 i a c).cut (hb i a)⟩, h4⟩
    | tail v => exact h.elim
    | loose v => exact h.elim
  | fixed cs => cases s with
    | blk b => obtain ⟨h1, h2, u, h3⟩ := h; exact ⟨h1, h2, u, fun i a => ⟨(h3 i a).1, (h3 i a).2.cut (hb i a)⟩⟩
    | tail v => exact h.elim
    | loose v => exact h.elim
  | map es c => cases s with
    | blk b => obtain ⟨h1, ces, h2, h3, h4⟩ := h; exact ⟨h1, ces, h2, h3, fun i a d => ⟨(h4 i a d).1.cut (hb i a).1, (h4 i a d).2.1.cut (hb i a).2, (h4 i a d).2.2⟩⟩
    | tail v => exact h.elim
    | loose v => exact h.elim
  | iter m s1 l1 q => cases s with
    | blk b => obtain ⟨h1, _, mb, h3, h4⟩ := h; exact ⟨h1, hb, mb, h3, h4⟩
    | tail v => exact h.elim
    | loose v => exact h.elim
  | tab c vs => cases s with
    | blk b => exact h.elim
    | tail v => exact h.elim
    | loose v => exact h
  | rmap es c => cases s with
    | blk b => obtain ⟨ces, h2, h3, h4⟩ := h; exact ⟨ces, h2, h3, fun i a d => ⟨(h4 i a d).1.cut (hb i a).1, (h4 i a d).2.1.cut (hb i a).2, (h4 i a d).2.2⟩⟩
    | tail v => exact h.elim
    | loose v => exact h.elim
theorem Sim.cut {w0 w : World} {g : Ghost} {h k : AHeap} (S : Sim w0 g (h ++ k) w) (hb : ∀ (id : Nat) (o : AObj), h[id]? = some o → OBel h.length o) : Sim w0 (g.cut h.length) h w := by
  have hl : ∀ {i : Nat} {o : AObj}, h[i]? = some o → (h ++ k)[i]? = some o := fun {i o} e => by
    rw [List.getElem?_append_left (List.getElem?_eq_some_iff.1 e).1]; exact e
  exact ⟨S.below, rfl, S.imm, S.soft, fun id o ho => (S.obj id o (hl ho)).cut (hb id o ho), fun i j oi oj b hi hj => S.sep i j oi oj b (hl hi) (hl hj), S.pin, fun id o b ho => S.free id o b (hl ho), S.b0, S.drawn⟩
theorem Ghost.le_cut {g g' : Ghost} (l : g.le g') : g.le (g'.cut g.n) := ⟨Nat.le_refl _, l.at_, l.imm, l.pin, l.b0⟩

/-! Tokens are forgotten. -/
mutual
def AV.strip : AV → AV
  | .list xs _ => .list (AV.stripL xs) .no
  | .ref cs off => .ref (AV.stripL cs) off
  | .func fn a b => .func fn (AV.stripL a) (AV.stripL b)
  | .iface t v => .iface t v.strip
  | .agg cs => .agg (AV.stripL cs)
  | .tuple cs => .tuple (AV.stripL cs)
  | x => x
def AV.stripL : List AV → List AV
  | [] => []
  | x :: r => x.strip :: AV.stripL r
end
theorem stripL_map : ∀ (l : List AV), AV.stripL l = l.map AV.strip
  | [] => by rw [AV.stripL]; rfl
  | x :: r => by rw [AV.stripL, stripL_map r]; rfl
theorem strip_list (xs : List AV) (t : Tok) : (AV.list xs t).strip = .list (xs.map AV.strip) .no := by rw [AV.strip, stripL_map]
theorem strip_agg (xs : List AV) : (AV.agg xs).strip = .agg (xs.map AV.strip) := by rw [AV.strip, stripL_map]
theorem strip_tuple (xs : List AV) : (AV.tuple xs).strip = .tuple (xs.map AV.strip) := by rw [AV.strip, stripL_map]
theorem strip_ref (xs : List AV) (o : Nat) : (AV.ref xs o).strip = .ref (xs.map AV.strip) o := by rw [AV.strip, stripL_map]
theorem strip_func (fn : Fn) (a b : List AV) : (AV.func fn a b).strip = .func fn (a.map AV.strip) (b.map AV.strip) := by rw [AV.strip, stripL_map, stripL_map]
theorem strip_iface (t : TypeId) (v : AV) : (AV.iface t v).strip = .iface t v.strip := by rw [AV.strip]
theorem strip_cells (x : AV) : x.strip.cells = x.cells.map AV.strip := by
  cases x <;> first | (rw [strip_agg]; rfl) | (rw [strip_list]; simp [AV.cells, strip_list]) | (rw [strip_ref]; simp [AV.cells, strip_ref]) | (rw [strip_func]; simp [AV.cells, strip_func]) | (rw [strip_iface]; simp [AV.cells, strip_iface]) | (rw [strip_tuple]; simp [AV.cells, strip_tuple]) | simp [AV.strip, AV.cells]
theorem VRel.strip {g : Ghost} {x : AV} {v : Value} (h : VRel g x v) : VRel g x.strip v := by
  induction h with
  | undef v => simp only [AV.strip]; exact .undef v
  | bool b => simp only [AV.strip]; exact .bool b
  | int k n => simp only [AV.strip]; exact .int k n
  | str s => simp only [AV.strip]; exact .str s
  | nilptr => simp only [AV.strip]; exact .nilptr
  | nilmap => simp only [AV.strip]; exact .nilmap
  | nilfunc => simp only [AV.strip]; exact .nilfunc
  | niliface => simp only [AV.strip]; exact .niliface
  | ptr id off b hi hb => simp only [AV.strip]; exact .ptr id off b hi hb
  | ref cs off b o u h1 h2 ih => rw [strip_ref]; exact .ref _ off b o u (fun i hi => h1 i (by simpa using hi)) (fun i hi => by simpa using ih i (by simpa using hi))
  | arr id off n c b o hi hb hc hm ho => simp only [AV.strip]; exact .arr id off n c b o hi hb hc hm ho
  | map id b hi hb => simp only [AV.strip]; exact .map id b hi hb
  | list xs t a c k b o u hc hm hn hk ha h1 h2 ht ih =>
    rw [strip_list]
    have hl : (xs.map AV.strip).length = xs.length := by simp
    have := VRel.list (g := g) (xs.map AV.strip) .no a c k b o u (by rw [hl]; exact hc) hm hn (fun j hj => by
        have : (xs.map AV.strip)[j] = xs[j].strip := by simp
        rw [this, strip_cells]; simpa using hk j (by simpa using hj)) (fun h => ha (by simpa using h)) (fun j hj i hi => by
        have e : (xs.map AV.strip)[j] = xs[j].strip := by simp
        rw [e, strip_cells] at hi
        exact h1 j (by simpa using hj) i (by simpa using hi)) (fun j hj i hi => by
        have e : (xs.map AV.strip)[j] = xs[j].strip := by simp
        have hi' : i < xs[j].cells.length := by rw [e, strip_cells] at hi; simpa using hi
        have := ih j (by simpa using hj) i hi'
        simp only [e, strip_cells, List.getElem_map]
        exact this) trivial
    rw [hl] at this
    exact this
  | func fn first captured f c hf hc h1 h2 ih1 ih2 =>
    rw [strip_func]
    exact .func _ _ _ _ _ (by simpa using hf) (by simpa using hc) (fun i p q => by simpa using ih1 i (by simpa using p) q) (fun i p q => by simpa using ih2 i (by simpa using p) q)
  | iface t v x _ ih => rw [strip_iface]; exact .iface t _ x ih
  | agg cs vs hl _ ih => rw [strip_agg]; exact .agg _ vs (by simpa using hl) (fun i p q => by simpa using ih i (by simpa using p) q)
  | tuple cs vs hl _ ih => rw [strip_tuple]; exact .tuple _ vs (by simpa using hl) (fun i p q => by simpa using ih i (by simpa using p) q)
/-! Pins and marks may turn. -/
def Ghost.hold (g : Ghost) (pin : Nat → Option Obj) (b0 : Nat) : Ghost := { g with pin := pin, b0 := b0 }
theorem VRel.hold {g : Ghost} {pin : Nat → Option Obj} {b0 : Nat} {x : AV} {v : Value} (h : VRel g x v) : VRel (g.hold pin b0) x v := by
  have l : g.le { g with pin := g.pin, b0 := g.b0 } := .refl g
  induction h with
  | undef v => exact .undef v
  | bool b => exact .bool b
  | int k n => exact .int k n
  | str s => exact .str s
  | nilptr => exact .nilptr
  | nilmap => exact .nilmap
  | nilfunc => exact .nilfunc
  | niliface => exact .niliface
  | ptr id off b hi hb => exact .ptr id off b hi hb
  | ref cs off b o u h1 _ ih => exact .ref cs off b o u h1 fun i hi => ih i hi
  | arr id off n c b o hi hb hc hm ho => exact .arr id off n c b o hi hb hc hm ho
  | map id b hi hb => exact .map id b hi hb
  | list xs t a c k b o u hc hm hn hk ha h1 _ htt ih => exact .list xs t a c k b o u hc hm hn hk ha h1 (fun j hj i hi => ih j hj i hi) (by cases t <;> exact htt)
  | func fn first captured f c hf hc _ _ i1 i2 => exact .func fn first captured f c hf hc i1 i2
  | iface t v x _ ih => exact .iface t v x ih
  | agg cs vs hl _ ih => exact .agg cs vs hl ih
  | tuple cs vs hl _ ih => exact .tuple cs vs hl ih
theorem ORel.hold {base : Nat} {g : Ghost} {w : World} {s : Spot} {o : AObj} {pin : Nat → Option Obj} {b0 : Nat} (h : ORel base g w s o) : ORel base (g.hold pin b0) w s o := by
  cases o with
  | dead => trivial
  | tail e k => cases s with
    | blk b => exact h.elim
    | tail v => exact h
    | loose v => exact h
  | cells cs => cases s with
    | blk b => obtain ⟨h1, ⟨vs, t, h2, h3⟩, h4⟩ := h; exact ⟨h1, ⟨vs, t, h2, h3.1, fun i a c => (h3.2 i a c).hold⟩, h4⟩
    | tail v => exact h.elim
    | loose v => exact h.elim
  | fixed cs => cases s with
    | blk b => obtain ⟨h1, h2, u, h3⟩ := h; exact ⟨h1, h2, u, fun i a => ⟨(h3 i a).1, (h3 i a).2.hold⟩⟩
    | tail v => exact h.elim
    | loose v => exact h.elim
  | map es c => cases s with
    | blk b => obtain ⟨h1, ces, h2, h3, h4⟩ := h; exact ⟨h1, ces, h2, h3, fun i a d => ⟨(h4 i a d).1.hold, (h4 i a d).2.1.hold, (h4 i a d).2.2⟩⟩
    | tail v => exact h.elim
    | loose v => exact h.elim
  | iter m s1 l1 q => cases s with
    | blk b => exact h
    | tail v => exact h.elim
    | loose v => exact h.elim
  | tab c vs => cases s with
    | blk b => exact h.elim
    | tail v => exact h.elim
    | loose v => exact h
  | rmap es c => cases s with
    | blk b => obtain ⟨ces, h2, h3, h4⟩ := h; exact ⟨ces, h2, h3, fun i a d => ⟨(h4 i a d).1.hold, (h4 i a d).2.1.hold, (h4 i a d).2.2⟩⟩
    | tail v => exact h.elim
    | loose v => exact h.elim
/-- The world turns at a block that nobody owns. -/
theorem Sim.hold {w0 w w' : World} {g : Ghost} {h : AHeap} {pin : Nat → Option Obj} {b0 : Nat} (S : Sim w0 g h w) (r : Option Nat) (hsz : w.heap.size ≤ w'.heap.size) (hos : w'.os = w.os) (htape : w'.tape = w.tape) (hout : w'.output = w.output)
    (hold : ∀ k, k < w.heap.size → some k ≠ r → w'.heap[k]? = w.heap[k]?) (hr : ∀ b, r = some b → w0.heap.size ≤ b ∧ (∀ o, g.imm b o = none) ∧ ∀ id o, h[id]? = some o → o ≠ .dead → (g.at_ id).block ≠ some b)
    (hp : ∀ b o, pin b = some o → ((w'.heap[b]? = some o ∧ o.isCells = false) ∧ w0.heap.size ≤ b) ∧ ∀ id o, h[id]? = some o → o ≠ .dead → (g.at_ id).block ≠ some b) (hb0 : b0 ≤ w'.heap.size) (hdr : w.drawn ≤ w'.drawn := by first | exact Nat.le_refl _ | exact Nat.le_succ _ | simp | (simp; omega)) : Sim w0 (g.hold pin b0) h w' := by
  refine ⟨S.below.trans ⟨hos, htape, hout, hsz, fun k hk => hold k (by have := S.below.size; omega) (fun e => by have := (hr k e.symm).1; omega)⟩, S.n, fun b o v e => ?_, fun b o n e => ?_, fun id o ho => ?_, S.sep, fun b o e => (hp b o e).1, fun id o b ho hd hb => ?_, hb0, Nat.le_trans S.drawn hdr⟩
  · have hb : some b ≠ r := fun e2 => by have := (hr b e2.symm).2.1 o; have e3 : g.imm b o = some v := e; rw [this] at e3; cases e3
    rw [World.cell?_of_block (w := w) (a := ⟨b, o, none⟩) (hold b (S.imm_lt e) hb)]; exact S.imm b o v e
  · have hb : some b ≠ r := fun e2 => by have := (hr b e2.symm).2.1 o; have e3 : g.imm b o = some (.int .i64 n) := e; rw [this] at e3; cases e3
    rw [frozen_block (w := w) (a := ⟨b, o, none⟩) (hold b (S.imm_lt e) hb)]; exact S.soft b o n e
  · have h1 := (S.obj id o ho).keep (w' := w') (Ghost.le.refl g) hsz (fun k hk => hold k (by have := S.below.size; omega) (fun e => by have := (hr k e.symm).1; omega)) fun hd b hbb => ⟨hold b (S.block_lt ho hd hbb).2 fun e => (hr b e.symm).2.2 id o ho hd hbb, fun _ => rfl⟩
    exact h1.hold
  · cases e : (g.hold pin b0).pin b with
    | none => rfl
    | some o' => exact absurd hb ((hp b o' e).2 id o ho hd)
end Go.Proofs.Ytajgeofhlgoifaa.V
