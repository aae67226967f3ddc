/- A literal's bytes that are turned into bytes. No program is named here. -/
import Derived.Test.YtajgeofhlgoifaaV23
set_option linter.unusedVariables false
set_option linter.unusedSimpArgs false
namespace Go.Proofs.Ytajgeofhlgoifaa.V
open Go Go.RowKit
section
variable {P : Program} {E : Env P} {w0 w : World} {g : Ghost} {h : AHeap}
theorem run_build1 (w : World) (t e : TypeId) (i : TypeInfo) (z : Value) (c : Int) (ht : P.underlying t = some (.slice e)) (hi : P.info? e = some i) (hz : i.zero = some z) (hz1 : z.cells.size = 1) (h1 : i.size = 1) :
    (Instr.buildSlice t 1 #[(0, .int .u8 c)]).run P w = .ok (.slice (some ⟨w.heap.size, 0, none⟩) 1 1) (w.alloc (.cells #[.int .u8 c] e)) := by
  have hs : sizeT P e = some 1 := by simp [sizeT, hi, h1]
  simp [Instr.buildSlice, run_underlying ht, sizeT_run hs, zeroValue, typeInfo, hi, hz, newRow, newObj, Sem.run_bind, Sem.run]
  have ha : Array.map (fun x => z.cells[x % z.cells.size]!) (Array.range 1) = #[z.cells[0 % z.cells.size]!] := Array.ext (by simp) (fun i h1 h2 => by simp at h2; subst h2; simp)
  rw [ha]
  simp [Instr.fill, Value.cells, Sem.run_bind, Sem.run]
theorem mark_run (w : World) (t e : TypeId) (b o n c : Nat) (vs : Array Value) (tt : TypeId) (ht : P.underlying t = some (.slice e)) (he : P.underlying e = some (.int .u8)) (hb : w.heap[b]? = some (.cells vs tt (0, 0))) :
    (convert t t (.slice (some ⟨b, o, none⟩) n c)).run P w = .ok (.slice (some ⟨b, o, none⟩) n c) (w.freeze ⟨b, vs.size, none⟩ 1) := by
  have hsh : w.shape? b = some (tt, vs.size) := by unfold World.shape?; rw [hb]
  simp [convert, run_underlying ht, run_underlying he, markStringish, hsh]
theorem mark_heap (w : World) (b n : Nat) (vs : Array Value) (tt : TypeId) (hb : w.heap[b]? = some (.cells vs tt (0, 0))) : (w.freeze ⟨b, n, none⟩ 1).heap[b]? = some (.cells vs tt (n, n + 1)) := by
  unfold World.freeze
  rw [if_neg (by decide)]
  simp [Array.getElem?_modify, hb]
theorem mark_other (w : World) (b n k : Nat) (hk : k ≠ b) : (w.freeze ⟨b, n, none⟩ 1).heap[k]? = w.heap[k]? := by
  unfold World.freeze
  rw [if_neg (by decide)]
  simp [Array.getElem?_modify, Ne.symm hk]
theorem mark_size (w : World) (b n : Nat) : (w.freeze ⟨b, n, none⟩ 1).heap.size = w.heap.size := by
  unfold World.freeze
  rw [if_neg (by decide)]
  simp
theorem mark_rest (w : World) (b n : Nat) : (w.freeze ⟨b, n, none⟩ 1).os = w.os ∧ (w.freeze ⟨b, n, none⟩ 1).tape = w.tape ∧ (w.freeze ⟨b, n, none⟩ 1).output = w.output := by
  unfold World.freeze
  rw [if_neg (by decide)]
  exact ⟨rfl, rfl, rfl⟩
/-- A slice whose cells turned is marked and fixed. -/
theorem mark_arr (S : Sim w0 g h w) {t e : TypeId} {id n c : Nat} {cs : List AV} (ht : P.underlying t = some (.slice e)) (he : P.underlying e = some (.int .u8)) (ho : h[id]? = some (.cells cs)) (h1 : ones (cs.take n) = true) (hn : n ≤ cs.length)
    {v : Value} (rv : VRel g (.arr id 0 n c) v) : Gives P w0 g w (.list (cs.take n) (if c = n then .full else .no)) (h.set id .dead) (convert t t v) := by
  obtain ⟨hid, b, o, hat, hc, hm, ho0, rfl⟩ := rv.arr_eq
  obtain ⟨hbase, vs, tt, h2, h3, h4⟩ := block_cells S ho hat
  have hlen : cs.length = vs.size := by simpa using h3.1
  have hr := mark_run (P := P) w t e b o n c vs tt ht he h2
  have hb' := mark_heap w b vs.size vs tt h2
  obtain ⟨r1, r2, r3⟩ := mark_rest w b vs.size
  have S1 : Sim w0 g (h.set id .dead) (w.freeze ⟨b, vs.size, none⟩ 1) :=
    S.turn (b := b) ho (by simp) (by rw [hat]; rfl) (by rw [mark_size]; exact Nat.le_refl _) r1 r2 r3 (fun k _ hk => mark_other w b _ k hk) (fun o v e1 => by rw [h4 o] at e1; cases e1) (fun o v e1 => by rw [h4 o] at e1; cases e1) (by cases g.at_ id <;> trivial)
  have hown : ∀ i o, (h.set id .dead)[i]? = some o → o ≠ .dead → (g.at_ i).block ≠ some b := fun i o hi hd e1 => by
    by_cases hne : id = i
    · subst hne
      rw [List.getElem?_set_self (List.getElem?_eq_some_iff.1 ho).1] at hi
      injection hi with hi; exact hd hi.symm
    · rw [List.getElem?_set_ne hne] at hi
      exact hne (S.sep id i _ o b ho hi (by simp) hd (by rw [hat]; rfl) e1)
  obtain ⟨l, S2⟩ := S1.fix (b := b) (lo := 0) (m := n) (u := fun q => vs.getD q .nilIface) (fun i _ hi => by
    rw [cell_of_row _ _ _ _ _ _ hb']
    simp [Array.getD_eq_getD_getElem?, show i < vs.size by omega]) (fun i _ _ hi _ => by unfold World.frozen?; simp only [hb']; simp; omega) hown
  have htl : (cs.take n).length = n := by simp; omega
  have hone : ∀ j (hj : j < (cs.take n).length), (cs.take n)[j].cells = [(cs.take n)[j]] := fun j hj => AV.one_cells (ones_get h1 hj)
  have V := VRel.list (g := g.fix b 0 n fun q => vs.getD q .nilIface) (cs.take n) (if c = n then .full else .no) (some ⟨b, o, none⟩) c 1 b 0 (fun q => vs.getD q .nilIface) (by omega) hm (fun e => by cases e)
    (fun j hj => by rw [hone j hj]; rfl) (fun h0 => by rw [ho0 (by omega)]) (fun j hj i hi => by
      rw [hone j hj] at hi
      obtain rfl : i = 0 := by simpa using hi
      rw [Nat.zero_add]
      exact Ghost.fix_at (Nat.zero_le _) (by omega)) (fun j hj i hi => by
      have hi' : i = 0 := by rw [hone j hj] at hi; simpa using hi
      subst hi'
      simp only [hone j hj, List.getElem_cons_zero, Nat.mul_one, Nat.add_zero]
      have hj' : j < cs.length := by omega
      have := h3.2 j hj' (by simp; omega)
      have e1 : (cs.take n)[j] = cs[j] := by simp
      have e2 : vs.getD j .nilIface = vs.toList[j]'(by simp; omega) := by simp [Array.getD_eq_getD_getElem?, show j < vs.size by omega]
      rw [e1, e2]
      exact this.mono l) (by
      by_cases e : c = n
      · rw [if_pos e]; show c = (cs.take n).length; omega
      · rw [if_neg e]; trivial)
  rw [htl] at V
  exact ⟨_, _, _, hr, l, V, S2⟩
theorem aops_mark {ops : Array Oper} {o : Oper} {r : List Oper} {n m c id : Nat} {s : Slots} {h : AHeap} {K : ASt → Prop} {t e : TypeId} {cs xs : List AV} {x : Operand} (hop : o.op = .convert t t x) (hg : o.guard = none)
    (ht : P.underlying t = some (.slice e)) (he : P.underlying e = some (.int .u8)) (hx : Slots.ev s x = .arr id 0 m c) (ho : h[id]? = some (.cells cs)) (hxs : cs.take m = xs) (h1 : ones xs = true) (hn : m ≤ cs.length)
    (k : AOps E ops r ⟨n, Slots.put n s o.dst (.list xs (if c = m then .full else .no)), h.set id .dead⟩ K) : AOps E ops (o :: r) ⟨n, s, h⟩ K := by
  subst hxs
  exact aops_one hg (aope_of_gives (s := fun a => convert t t (a.eval x)) (fun a => by simp [execOp, hop]) (fun c => by rw [hop]; simp) fun w0 g w a ra S => by
    have rx := ra.ev x
    simp only at rx
    rw [hx] at rx
    exact ⟨_, _, k, mark_arr (P := P) S ht he ho h1 hn rx⟩)
/-- A literal of one byte. -/
theorem aops_lit1 {ops : Array Oper} {o : Oper} {r : List Oper} {n : Nat} {s : Slots} {h : AHeap} {K : ASt → Prop} {t e : TypeId} {i : TypeInfo} {z : Value} {c : Int} (hop : o.op = .buildSlice t 1 #[(0, .const (.int .u8 c))]) (hg : o.guard = none)
    (ht : P.underlying t = some (.slice e)) (hi : P.info? e = some i) (hz : i.zero = some z) (hz1 : z.cells.size = 1) (h1 : i.size = 1)
    (k : AOps E ops r ⟨n, Slots.put n s o.dst (.arr h.length 0 1 1), h ++ [.cells [.int .u8 c]]⟩ K) : AOps E ops (o :: r) ⟨n, s, h⟩ K :=
  aops_one hg (aope_of_gives (s := fun a => Instr.buildSlice t 1 #[(0, .int .u8 c)]) (fun a => by simp [execOp, hop, Act.eval]) (fun c => by rw [hop]; simp) fun w0 g w a ra S => by
    obtain ⟨l, S', r'⟩ := new_arr (n := 1) (vs := #[.int .u8 c]) (cs := [.int .u8 c]) S e ⟨by simp, fun i a b => by
      obtain rfl : i = 0 := by simpa using a
      exact .int _ _⟩ (by simp) (by simp [maxLen])
    exact ⟨_, _, k, _, _, _, run_build1 w t e i z c ht hi hz hz1 h1, l, r', S'⟩)
end
end Go.Proofs.Ytajgeofhlgoifaa.V
