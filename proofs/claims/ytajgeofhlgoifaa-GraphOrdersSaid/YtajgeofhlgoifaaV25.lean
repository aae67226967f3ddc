/- Comparing a list with nil; clear; maps of three entries. No program is named here. -/
import Derived.Test.YtajgeofhlgoifaaV24
import Derived.MapKept
set_option linter.unusedVariables false
set_option linter.unusedSimpArgs false
namespace Go.Proofs.Ytajgeofhlgoifaa.V
open Go Go.RowKit
section
variable {P : Program} {E : Env P} {w0 w : World} {g : Ghost} {h : AHeap}
theorem nilcmp_run (w : World) (t e : TypeId) (a : Option Addr) (n c : Nat) (x y : Operand) (ht : P.underlying t = some (.slice e)) :
    (do eqGuard .eql t x y (.slice a n c) (.slice none 0 0); binOp .eql t (.slice a n c) (.slice none 0 0) : Sem Value).run P w = .ok (.bool a.isNone) w := by
  have h1 : (Op.equal t (.slice a n c) (.slice none 0 0)).run P w = .ok a.isNone w := by
    have hd : Op.maxDepth = (Op.maxDepth - 1) + 1 := by decide
    unfold Op.equal
    rw [hd]
    cases a <;> simp [Op.equalIn, run_underlying ht]
  simp [eqGuard, binOp, h1]
theorem aops_nilcmp {ops : Array Oper} {o : Oper} {r : List Oper} {n : Nat} {s : Slots} {h : AHeap} {K : ASt → Prop} {t t2 e : TypeId} {xs : List AV} {tk : Tok} {x : Operand} (hop : o.op = .binOp .eql t x (.const (.slice none 0 0)) t2) (hg : o.guard = none)
    (ht : P.underlying t = some (.slice e)) (hx : Slots.ev s x = .list xs tk) (k : ∀ b : Bool, (xs ≠ [] → b = false) → AOps E ops r ⟨n, Slots.put n s o.dst (.bool b), h⟩ K) : AOps E ops (o :: r) ⟨n, s, h⟩ K :=
  aops_one hg (aope_of_gives (s := fun a => (do eqGuard .eql t x (.const (.slice none 0 0)) (a.eval x) (.slice none 0 0); binOp .eql t (a.eval x) (.slice none 0 0))) (fun a => by simp [execOp, hop, Act.eval]) (fun c => by rw [hop]; simp) fun w0 g w a ra S => by
    have rx := ra.ev x
    simp only at rx
    rw [hx] at rx
    obtain ⟨A, c, hv, hcc, hm, hnn, _⟩ := rx.list_eq
    rw [hv]
    refine ⟨_, _, k A.isNone (fun hne => ?_), .bool A.isNone, w, g, nilcmp_run w t e A _ c _ _ ht, .refl g, .bool _, S⟩
    cases A with
    | none =>
      exfalso
      have := hnn rfl
      exact hne (List.eq_nil_of_length_eq_zero (by omega))
    | some _ => rfl)
/-! clear. -/
theorem clear_arr (S : Sim w0 g h w) {t ty e : TypeId} {id off n c : Nat} {cs : List AV} {z : AV} (ht : P.underlying t = some (.slice e)) (hs : sizeT P e = some 1) (hz : zeroA P e = some z) (hkn : z.known = true) (hz1 : z.one = true) (ho : h[id]? = some (.cells cs)) (hn : off + n ≤ cs.length)
    {vx : Value} (rx : VRel g (.arr id off n c) vx) :
    Gives P w0 g w (.tuple []) (h.set id (.cells (V.over cs off (List.replicate n z)))) (Builtin.clear_ #[t] ty #[vx]) := by
  obtain ⟨hid, b, o, hb, hc, hm, ho0, rfl⟩ := rx.arr_eq
  obtain ⟨hbase, vs, tt, h2, h3, h4⟩ := block_cells S ho hb
  have hlen : cs.length = vs.size := by simpa using h3.1
  by_cases h0 : n = 0
  · subst h0
    refine ⟨.tuple #[], w, g, ?_, .refl g, .tuple _ _ rfl (fun i h => absurd h (by simp)), ?_⟩
    · simp [Builtin.clear_, run_underlying ht]
    · have e1 : V.over cs off (List.replicate 0 z) = cs := by simp [V.over]
      rw [e1, set_same ho]; exact S
  · obtain rfl := ho0 (by omega)
    have hzc : zeroCells P e = some z.cells := by unfold zeroCells; rw [hz]; simp only [hkn, if_true]
    obtain ⟨it, zv, hi, hzv, hzr⟩ := zeroCells_spec (P := P) (g := g) hzc
    have hcell := AV.one_cells hz1
    have hzs : zv.cells.size = 1 := by have := hzr.1; rw [hcell] at this; simp only [List.length_singleton, Array.length_toList] at this; exact this.symm
    have hzr0 : VRel g z (zv.cells[0]'(by omega)) := by
      have := hzr.2 0 (by rw [hcell]; simp) (by simp; omega)
      simp only [hcell, List.getElem_cons_zero] at this
      simpa using this
    let us : List Value := (Builtin.zeroCells zv.cells n).toList
    have hul : us.length = n := by simp [us, size_zeroCells, hzs]
    have hug : ∀ j (hj : j < us.length), us[j] = zv.cells[0]'(by omega) := fun j hj => by
      have hjn : j < n := by omega
      simp [us, Builtin.zeroCells, hzs, Nat.mod_one, getElem!_pos zv.cells 0 (by omega)]
    have hone : ∀ v ∈ us, v.oneCell' = true := fun v hv => by
      obtain ⟨j, hj, rfl⟩ := List.getElem_of_mem hv
      rw [hug j hj]; exact AV.one_spec hz1 hzr0
    have hst := run_storeCells_at P b o tt us 0 vs w h2 (by omega) hone
    simp only [Nat.add_zero] at hst
    have hzz : (zeroValue e).run P w = .ok zv w := by simp [zeroValue, typeInfo, hi, hzv]
    have hr : (Builtin.clear_ #[t] ty #[.slice (some ⟨b, o, none⟩) n c]).run P w = .ok (.tuple #[]) (w.setRow b (vs.toList.take o ++ us ++ vs.toList.drop (o + us.length)).toArray) := by
      obtain ⟨m, rfl⟩ : ∃ m, n = m + 1 := ⟨n - 1, by omega⟩
      have e0 : (#[t] : Array TypeId)[0]? = some t := rfl
      have e1 : (#[Value.slice (some ⟨b, o, none⟩) (m + 1) c] : Array Value)[0]? = some (.slice (some ⟨b, o, none⟩) (m + 1) c) := rfl
      unfold Builtin.clear_
      rw [e0, e1]
      simp only [Sem.run_bind, run_underlying ht, Result.andThen_ok, hzz, Sem.run_pure]
      rw [hst]
      rfl
    have hr2 : (w.setRow b (vs.toList.take o ++ us ++ vs.toList.drop (o + us.length)).toArray).heap[b]? = some (.cells (vs.toList.take o ++ us ++ vs.toList.drop (o + us.length)).toArray tt (0, 0)) := setRow_heap w b vs _ tt _ h2
    refine ⟨_, _, g, hr, .refl g, .tuple _ _ rfl (fun i h => absurd h (by simp)), ?_⟩
    refine S.turn (o' := .cells (V.over cs o (List.replicate n z))) ho (by simp) (b := b) (by rw [hb]; rfl) (by simp [World.setRow]) rfl rfl rfl (fun k _ hk => setRow_other w b k _ hk) (fun o v e => by rw [h4 o] at e; cases e) (fun o v e => by rw [h4 o] at e; cases e) ?_
    rw [hb]
    refine ⟨hbase, ⟨_, tt, hr2, ?_⟩, h4⟩
    exact h3.over (xs := List.replicate n z) (us := us) (off := o) ⟨by simp [hul], fun i a b => by
      rw [hug i b]; simpa using hzr0⟩ (by simp; omega)
theorem aops_clear {ops : Array Oper} {o : Oper} {r : List Oper} {n m c id off : Nat} {s : Slots} {h : AHeap} {K : ASt → Prop} {t e : TypeId} {cs : List AV} {z : AV} {x : Operand} (hop : o.op = .call ⟨.builtin .clear, #[x], #[t]⟩) (hg : o.guard = none)
    (ht : P.underlying t = some (.slice e)) (hs : sizeT P e = some 1) (hz : zeroA P e = some z) (hkn : z.known = true) (hz1 : z.one = true) (hx : Slots.ev s x = .arr id off m c) (ho : h[id]? = some (.cells cs)) (hn : off + m ≤ cs.length)
    (k : AOps E ops r ⟨n, Slots.put n s o.dst (.tuple []), h.set id (.cells (V.over cs off (List.replicate m z)))⟩ K) : AOps E ops (o :: r) ⟨n, s, h⟩ K :=
  aops_one hg (aope_of_gives (s := fun a => Builtin.clear_ #[t] o.type #[a.eval x]) (fun a => by simp [execOp, hop, resolve, invoke, builtin]) (fun c => by rw [hop]; simp) fun w0 g w a ra S => by
    have rx := ra.ev x
    simp only at rx
    rw [hx] at rx
    exact ⟨_, _, k, clear_arr (P := P) S ht hs hz hkn hz1 ho hn rx⟩)
end
end Go.Proofs.Ytajgeofhlgoifaa.V
