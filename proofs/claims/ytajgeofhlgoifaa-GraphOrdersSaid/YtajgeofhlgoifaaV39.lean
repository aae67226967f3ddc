/- Append of a made slice to nothing: room, and nothing in it. No program is named here. -/
import Derived.Test.YtajgeofhlgoifaaV38
import Derived.Lib.AppendZerosOnto
set_option linter.unusedVariables false
set_option linter.unusedSimpArgs false
namespace Go.Proofs.Ytajgeofhlgoifaa.V
open Go Go.RowKit
section
variable {P : Program} {E : Env P} {w0 w : World} {g : Ghost} {h : AHeap}
theorem append_zeros (S : Sim w0 g h w) {t tn ty e : TypeId} {k by_ n : Nat} {kq : IntKind} {zc : List AV} {vx vy : Value} (ht : P.underlying t = some (.slice e)) (htn : ∃ kn, P.underlying tn = some (.int kn)) (hs : sizeT P e = some k) (hb : bytesT P e = some by_) (hz : zeroCells P e = some zc) (hzl : zc.length = k) (hk : 0 < k)
    (hn : 0 < n) (hbb : n * by_ ≤ 140737488355328) (h63 : n ≤ 140737488355328) (rx : VRel g (.list [] .full) vx) (ry : VRel g (.int kq n) vy) :
    ∃ c' : Nat, n ≤ c' ∧ Gives P w0 g w (.arr h.length 0 n c') (h ++ [.cells (List.replicate (c' * k) .undef)]) (Builtin.append_ #[t, tn] ty #[vx, vy]) := by
  obtain ⟨A, c, rfl, _, _, hnn, htok, hL⟩ := rx.list_eq
  obtain rfl : c = 0 := htok
  obtain rfl := ry.int_eq
  obtain ⟨kn, htn⟩ := htn
  have hf0 : (Builtin.firstCells k 0 (.slice A 0 0)).run P w.drew = .ok ([] : List Value).toArray w.drew := by
    obtain ⟨b, o, u, L⟩ := hL k (by rfl)
    have := L.first (P := P) hk (by intro; rfl) (Nat.le_refl _) w.drew S.drew.agree
    simpa using this
  obtain ⟨it, zv, hi, hzv, hzr⟩ := zeroCells_spec (P := P) (g := g) hz
  have hby : it.bytes = by_ := by simpa [bytesT, hi] using hb
  have hsz : it.size = k := by simpa [sizeT, hi] using hs
  have hzs : zv.cells.size = k := by have := hzr.1; simp at this; omega
  have hrun := Lib.run_append_grow_zeros w t tn ty e it zv kq kn ht htn hi hzv A 0 0 [] (by rw [hsz]; exact hf0) n hn (by omega) (by omega) (by omega) (by rw [hby]; omega) (by rw [hby]; exact growslice_fits (old := 0) (by omega) (by simpa using hbb))
  have hcap1 := grownCap_ge w (0 + n) 0 e
  have hcap2 := grownCap_le_maxLen w (0 + n) 0 e (by unfold maxLen; omega)
  generalize hcap : grownCap w (0 + n) 0 e = cap at hrun hcap1 hcap2
  simp only [Nat.zero_add] at hrun hcap1
  have hc : CellsRel g (List.replicate (cap * k) .undef) (([] : List Value).toArray ++ Builtin.zeroCells zv.cells n ++ Builtin.zeroCells zv.cells (cap - n)).toList := by
    refine ⟨?_, fun i h1 h2 => ?_⟩
    · simp [size_zeroCells, hzs]
      rw [← Nat.add_mul]; congr 1; omega
    · rw [List.getElem_replicate]; exact .undef _
  obtain ⟨l, S', r⟩ := new_obj (w := w.drew) S.drew e hc
  refine ⟨cap, hcap1, _, _, _, hrun, l, ?_, S'⟩
  exact .arr _ _ _ _ _ _ (by rw [S.n]; exact Nat.lt_succ_self _) (by rw [S.n]; exact Ghost.push_at g _) hcap1 hcap2 (fun _ => rfl)
end
theorem aops_append_zeros {P : Program} {E : Env P} {ops : Array Oper} {o : Oper} {r : List Oper} {n : Nat} {s : Slots} {h : AHeap} {K : ASt → Prop} {t tn e : TypeId} {x y : Operand} {k by_ m : Nat} {kq : IntKind} {zc : List AV}
    (hop : o.op = .call ⟨.builtin .append, #[x, y], #[t, tn]⟩) (hg : o.guard = none) (ht : P.underlying t = some (.slice e)) (htn : ∃ kn, P.underlying tn = some (.int kn)) (hs : sizeT P e = some k) (hb : bytesT P e = some by_) (hz : zeroCells P e = some zc) (hzl : zc.length = k) (hk : 0 < k)
    (hm : 0 < m) (hbb : m * by_ ≤ 140737488355328) (h63 : m ≤ 140737488355328) (hx : Slots.ev s x = .list [] .full) (hy : Slots.ev s y = .int kq m)
    (k0 : ∀ c', m ≤ c' → AOps E ops r ⟨n, Slots.put n s o.dst (.arr h.length 0 m c'), h ++ [.cells (List.replicate (c' * k) .undef)]⟩ K) : AOps E ops (o :: r) ⟨n, s, h⟩ K :=
  aops_one hg (aope_of_gives (s := fun a => Builtin.append_ #[t, tn] o.type #[a.eval x, a.eval y]) (fun a => by simp [execOp, hop, resolve, invoke, builtin]) (fun c => by rw [hop]; simp) fun w0 g w a ra S => by
    have rx := ra.ev x
    have ry := ra.ev y
    simp only at rx ry
    rw [hx] at rx
    rw [hy] at ry
    obtain ⟨c', e1, G⟩ := append_zeros (P := P) (ty := o.type) S ht htn hs hb hz hzl hk hm hbb h63 rx ry
    exact ⟨_, _, k0 c' e1, G⟩)
/-- The room of a slice of nothing. -/
theorem aops_cap0 {P : Program} {E : Env P} {ops : Array Oper} {o : Oper} {r : List Oper} {n : Nat} {s : Slots} {h : AHeap} {K : ASt → Prop} {t : TypeId} {x : Operand} (hop : o.op = .call ⟨.builtin .cap, #[x], #[t]⟩) (hg : o.guard = none) {e : TypeId} (ht : P.underlying t = some (.slice e)) (hx : Slots.ev s x = .list [] .full)
    (k0 : AOps E ops r ⟨n, Slots.put n s o.dst (.int .i64 0), h⟩ K) : AOps E ops (o :: r) ⟨n, s, h⟩ K :=
  aops_one hg (aope_of_gives (s := fun a => Builtin.cap_ #[t] o.type #[a.eval x]) (fun a => by simp [execOp, hop, resolve, invoke, builtin]) (fun c => by rw [hop]; simp) fun w0 g w a ra S => by
    have rx := ra.ev x
    simp only at rx
    rw [hx] at rx
    obtain ⟨A, c, hv, _, _, hnn, htok, hL⟩ := rx.list_eq
    obtain rfl : c = 0 := htok
    rw [hv]
    exact ⟨_, _, k0, .int .i64 0, w, g, by simp [Builtin.cap_, run_underlying ht, goInt], .refl g, .int _ _, S⟩)
end Go.Proofs.Ytajgeofhlgoifaa.V
