/- A literal of one element whose cells turn. No program is named here. -/
import Derived.Test.YtajgeofhlgoifaaV37
set_option linter.unusedVariables false
set_option linter.unusedSimpArgs false
namespace Go.Proofs.Ytajgeofhlgoifaa.V
open Go Go.RowKit
section
variable {P : Program} {E : Env P} {w0 w : World} {g : Ghost} {h : AHeap}
theorem build_one (S : Sim w0 g h w) {t el : TypeId} {k : Nat} {zc cs : List AV} {x : AV} {v : Value} (hu : P.underlying t = some (.slice el)) (hs : sizeT P el = some k) (hz : zeroCells P el = some zc) (hzl : zc.length = k) (hk0 : 0 < k) (hlim : k ≤ 16777216)
    (hf : afill (fun i => some (i * k, k)) zc [(0, x)] = some cs) (r : VRel g x v) : Gives P w0 g w (.arr h.length 0 1 1) (h ++ [.cells cs]) (Instr.buildSlice t 1 #[(0, v)]) := by
  obtain ⟨it, zv, hi, hzv, hzr⟩ := zeroCells_spec (P := P) (g := g) hz
  have hzs : zv.cells.size = k := by have := hzr.1; simp at this; omega
  obtain ⟨vs', hfill, hrel⟩ := afill_sound (g := g) (vs := (Array.range (1 * k)).map (fun i => zv.cells[i % zv.cells.size]!)) (vparts := [(0, v)]) hf ⟨by simp [hzl], fun i a b => by
      have hi' : i < k := by omega
      have hlt : i < zv.cells.size := by omega
      have := hzr.2 i a (by simpa using hlt)
      simp only [Array.getElem_toList, Array.getElem_map, Array.getElem_range]
      rw [Nat.mod_eq_of_lt hlt, getElem!_pos zv.cells i hlt]
      simpa using this⟩ rfl (fun i a b => by
      have : i = 0 := by simpa using a
      subst this
      exact ⟨rfl, r⟩)
  obtain ⟨l, S2, r2⟩ := new_obj S el hrel
  refine ⟨_, _, _, ?_, l, .arr _ _ _ _ _ _ (by rw [S.n]; exact Nat.lt_succ_self _) (by rw [S.n]; exact Ghost.push_at g _) (Nat.le_refl _) (by simp [maxLen]) (fun _ => rfl), S2⟩
  have h24 : ¬ (1 * k > 2 ^ 24) := by omega
  have h0 : ¬ (1 * k = 0) := by omega
  have hzz : (zeroValue el).run P w = .ok zv w := by simp [zeroValue, typeInfo, hi, hzv]
  simp only [Instr.buildSlice, Sem.run_bind, run_underlying hu, Result.andThen_ok, sizeT_run hs, if_neg h24, if_neg h0, hzz, Sem.run_pure]
  simp only [hfill]
  simp [newRow, newObj, Sem.run_bind, Sem.run]
end
theorem aops_one_lit {P : Program} {E : Env P} {ops : Array Oper} {o : Oper} {r : List Oper} {n : Nat} {s : Slots} {h : AHeap} {K : ASt → Prop} {t el : TypeId} {k : Nat} {zc cs : List AV} {x : Operand} (hop : o.op = .buildSlice t 1 #[(0, x)]) (hg : o.guard = none)
    (hu : P.underlying t = some (.slice el)) (hs : sizeT P el = some k) (hz : zeroCells P el = some zc) (hzl : zc.length = k) (hk0 : 0 < k) (hlim : k ≤ 16777216) (hf : afill (fun i => some (i * k, k)) zc [(0, Slots.ev s x)] = some cs)
    (k0 : AOps E ops r ⟨n, Slots.put n s o.dst (.arr h.length 0 1 1), h ++ [.cells cs]⟩ K) : AOps E ops (o :: r) ⟨n, s, h⟩ K :=
  aops_one hg (aope_of_gives (s := fun a => Instr.buildSlice t 1 #[(0, a.eval x)]) (fun a => by simp [execOp, hop]) (fun c => by rw [hop]; simp) fun w0 g w a ra S =>
    ⟨_, _, k0, build_one (P := P) S hu hs hz hzl hk0 hlim hf (ra.ev x)⟩)
end Go.Proofs.Ytajgeofhlgoifaa.V
