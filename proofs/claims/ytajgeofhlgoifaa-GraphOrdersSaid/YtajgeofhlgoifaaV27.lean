/- A box that turns no more. No program is named here. -/
import Derived.Test.YtajgeofhlgoifaaV23
set_option linter.unusedVariables false
set_option linter.unusedSimpArgs false
namespace Go.Proofs.Ytajgeofhlgoifaa.V
open Go Go.RowKit
section
variable {P : Program} {E : Env P} {w0 w : World} {g : Ghost} {h : AHeap}
def AV.melt (id : Nat) (cs : List AV) : AV → AV
  | .ptr i k => if i = id then .ref cs k else .ptr i k
  | x => x
def Slots.melt (id : Nat) (cs : List AV) : Slots → Slots
  | [] => []
  | (k, v) :: s => (k, AV.melt id cs v) :: Slots.melt id cs s
theorem melt_get (id : Nat) (cs : List AV) : ∀ (s : Slots) (t : Nat), Slots.get (Slots.melt id cs s) t = AV.melt id cs (Slots.get s t)
  | [], t => rfl
  | (k, v) :: s, t => by
    simp only [Slots.melt, Slots.get]
    split
    · rfl
    · exact melt_get id cs s t
theorem harden (S : Sim w0 g h w) {id : Nat} {cs : List AV} (ho : h[id]? = some (.cells cs)) :
    ∃ g', g.le g' ∧ Sim w0 g' (h.set id .dead) w ∧ ∀ k v, VRel g (.ptr id k) v → VRel g' (.ref cs k) v := by
  have hO := S.obj id _ ho
  cases hat : g.at_ id with
  | tail v => rw [hat] at hO; exact hO.elim
  | loose v => rw [hat] at hO; exact hO.elim
  | blk b =>
    rw [hat] at hO
    obtain ⟨hbase, ⟨vs, tt, h2, h3⟩, h4⟩ := hO
    have hlen : cs.length = vs.size := by simpa using h3.1
    have S1 := S.kill ho
    have hown : ∀ i o, (h.set id .dead)[i]? = some o → o ≠ .dead → (g.at_ i).block ≠ some b := fun i o hi hd e1 => by
      by_cases hne : id = i
      · subst hne
        rw [List.getElem?_set_self (List.getElem?_eq_some_iff.1 ho).1] at hi
        injection hi with hi; exact hd hi.symm
      · rw [List.getElem?_set_ne hne] at hi
        exact hne (S.sep id i _ o b ho hi (by simp) hd (by rw [hat]; rfl) e1)
    obtain ⟨l, S2⟩ := S1.fix (b := b) (lo := 0) (m := cs.length) (u := fun q => vs.getD q .nilIface) (fun i _ hi => by
      rw [cell_of_row _ _ _ _ _ _ h2]
      simp [Array.getD_eq_getD_getElem?, show i < vs.size by omega]) (fun i _ _ _ _ => frozen_no h2) hown
    refine ⟨_, l, S2, fun k v hv => ?_⟩
    obtain ⟨hid, b', hb, rfl⟩ := hv.ptr_eq
    rw [hat] at hb
    injection hb with hb
    subst hb
    have := VRel.ref (g := g.fix b 0 cs.length fun q => vs.getD q .nilIface) cs k b 0 (fun q => vs.getD q .nilIface) (fun i hi => by
        rw [Nat.zero_add]
        exact Ghost.fix_at (Nat.zero_le _) (by omega)) (fun i hi => by
        have := h3.2 i hi (by simp; omega)
        have e2 : vs.getD i .nilIface = vs.toList[i]'(by simp; omega) := by simp [Array.getD_eq_getD_getElem?, show i < vs.size by omega]
        rw [e2]
        exact this.mono l)
    rwa [Nat.zero_add] at this
/-- A box that is only read from now on. -/
theorem awp_hard {id m : Nat} {cs : List AV} {code : Code} {Q : Post} {s : Slots} {h : AHeap} (ho : h[id]? = some (.cells cs))
    (k : AWP E code Q ⟨m, Slots.melt id cs s, h.set id .dead⟩) : AWP E code Q ⟨m, s, h⟩ := fun m' w0 g w a hC r S => by
  obtain ⟨g', l, S', hv⟩ := harden S ho
  have r' : StRel g' ⟨m, Slots.melt id cs s, h.set id .dead⟩ a := ⟨r.defers.mono l, r.size, fun t => by
    have h0 := r.slots t
    show VRel g' (Slots.get (Slots.melt id cs s) t) _
    rw [melt_get]
    cases hx : Slots.get s t with
    | ptr i k2 =>
      simp only at h0
      rw [hx] at h0
      unfold AV.melt
      simp only
      split
      · rename_i he; subst he; exact hv _ _ h0
      · exact h0.mono l
    | _ => simp only at h0; rw [hx] at h0; exact h0.mono l⟩
  exact wpIn_mono (k m' w0 g' w a (E.mono l hC) r' S') fun e a w ⟨s2, g2, l2, r2, S2, q⟩ => ⟨s2, g2, l.trans l2, r2, S2, q⟩
end
end Go.Proofs.Ytajgeofhlgoifaa.V
