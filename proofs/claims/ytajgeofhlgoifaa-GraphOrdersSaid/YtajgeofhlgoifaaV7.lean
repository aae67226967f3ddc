/- Operations that read nothing but what is fixed: slicing, conversions, structs that are built; all of them. No program is named here. -/
import Derived.Test.YtajgeofhlgoifaaV6
set_option linter.unusedVariables false
set_option linter.unusedSimpArgs false
namespace Go.Proofs.Ytajgeofhlgoifaa.V
open Go Go.RowKit

def abd (x : AV) (y : Nat) : Option Nat :=
  match x with
  | .int _ i => if 0 ≤ i ∧ i ≤ y then some i.toNat else none
  | _ => none
def abdLo (x : Option AV) (y : Nat) : Option Nat :=
  match x with
  | none => some 0
  | some v => abd v y
def abdHi (x : Option AV) (y : Nat) : Option Nat :=
  match x with
  | none => some y
  | some v => abd v y
def Tok.cut (t : Tok) (l h n : Nat) : Tok := if l = 0 ∧ h = n then t else if t = .full ∧ h = n then .full else .no
def aslice (P : Program) (t : TypeId) (x : AV) (lo hi mx : Option AV) : Option AV :=
  match P.underlying t, x with
  | some .string, .str s =>
    match mx, abdHi hi s.length with
    | none, some h => match abdLo lo h with
      | some l => some (.str ((s.take h).drop l))
      | none => none
    | _, _ => none
  | some (.slice e), .list xs tk =>
    match sizeT P e with
    | none => none
    | some n =>
      if uni n xs then
        match mx with
        | none => match abdHi hi xs.length with
          | some h => match abdLo lo h with
            | some l => some (.list ((xs.take h).drop l) (tk.cut l h xs.length))
            | none => none
          | none => none
        | some m => match abd m xs.length, hi with
          | some m, some hi => match abd hi m with
            | some h => match abdLo lo h with
              | some l => some (.list ((xs.take h).drop l) (if m = h then .full else .no))
              | none => none
            | none => none
          | _, _ => none
      else none
  | some (.slice e), .arr id off n c =>
    match sizeT P e with
    | none => none
    | some k => match mx with
      | none => match abdHi hi n with
        | some h => match abdLo lo h with
          | some l => some (.arr id (off + if k = 1 then l else l * k) (h - l) (c - l))
          | none => none
        | none => none
      | some m => match abd m n, hi with
        | some m, some hi => match abd hi m with
          | some h => match abdLo lo h with
            | some l => some (.arr id (off + if k = 1 then l else l * k) (h - l) (m - l))
            | none => none
          | none => none
        | _, _ => none
  | _, _ => none
def OptRel (g : Ghost) : Option AV → Option Value → Prop
  | none, none => True
  | some x, some v => VRel g x v
  | _, _ => False

section
variable {P : Program} {g : Ghost}
theorem abd_run {x : AV} {y y' n : Nat} (h : abd x y = some n) (hy : y ≤ y') {v : Value} (hx : VRel g x v) (code : BoundsCode) (w : World) :
    (Instr.sliceBound v y' code).run P w = .ok n w ∧ n ≤ y := by
  unfold abd at h
  split at h
  · rename_i k i
    split at h
    · rename_i hb
      injection h with h; subst h
      rw [hx.int_eq]
      exact ⟨run_sliceBound w k i y' code hb.1 (by omega), by omega⟩
    · cases h
  · cases h
theorem bounds_run {b : Bool} {n c : Nat} (hc : n ≤ c) {lo hi : Option AV} {h l : Nat} (e1 : abdHi hi n = some h) (e2 : abdLo lo h = some l) {vl vh : Option Value} (rl : OptRel g lo vl) (rh : OptRel g hi vh) (w : World) :
    (Instr.sliceBounds b n c vl vh none).run P w = .ok (l, h, c) w ∧ l ≤ h ∧ h ≤ n := by
  have k1 : ∀ code, (match vh, (none : Option Value) with | some v, some _ => Instr.sliceBound v c .slice3B | some v, none => Instr.sliceBound v c code | none, none => pure n | none, some _ => stuck "Slice: max without high" : Sem Nat).run P w = .ok h w ∧ h ≤ n := by
    intro code
    cases hi with
    | none => cases vh with
      | none => simp [abdHi] at e1; subst e1; exact ⟨rfl, Nat.le_refl _⟩
      | some v => exact rh.elim
    | some x => cases vh with
      | none => exact rh.elim
      | some v => exact abd_run e1 hc rh code w
  have k2 : ∀ code, (match vl with | some v => Instr.sliceBound v h code | none => pure 0 : Sem Nat).run P w = .ok l w ∧ l ≤ h := by
    intro code
    cases lo with
    | none => cases vl with
      | none => simp [abdLo] at e2; subst e2; exact ⟨rfl, Nat.zero_le _⟩
      | some v => exact rl.elim
    | some x => cases vl with
      | none => exact rl.elim
      | some v => exact abd_run e2 (Nat.le_refl _) rl code w
  refine ⟨?_, (k2 .sliceB).2, (k1 .sliceAcap).2⟩
  cases vh <;> cases vl <;> cases b <;>
    (have a1 := (k1 .sliceAcap).1; have a2 := (k1 .sliceAlen).1; have a3 := (k2 .sliceB).1; simp only at a1 a2 a3
     simp [Instr.sliceBounds, Sem.run_bind, a1, a2, a3])
  all_goals simp_all

theorem bounds3_run {n c m h l : Nat} (hc : n ≤ c) {lo : Option AV} {xh xm : AV} (e0 : abd xm n = some m) (e1 : abd xh m = some h) (e2 : abdLo lo h = some l) {vl : Option Value} {vh vm : Value}
    (rl : OptRel g lo vl) (rh : VRel g xh vh) (rm : VRel g xm vm) (w : World) :
    (Instr.sliceBounds true n c vl (some vh) (some vm)).run P w = .ok (l, h, m) w ∧ l ≤ h ∧ h ≤ m ∧ m ≤ n := by
  have a0 := fun code => abd_run (P := P) e0 hc rm code w
  have a1 := fun code => abd_run (P := P) e1 (Nat.le_refl _) rh code w
  cases lo with
  | none => cases vl with
    | none =>
      simp [abdLo] at e2; subst e2
      exact ⟨by simp [Instr.sliceBounds, Sem.run_bind, a0, a1], Nat.zero_le _, (a1 .sliceB).2, (a0 .sliceB).2⟩
    | some v => exact rl.elim
  | some x => cases vl with
    | none => exact rl.elim
    | some v =>
      have a2 := fun code => abd_run (P := P) e2 (Nat.le_refl _) rl code w
      exact ⟨by simp [Instr.sliceBounds, Sem.run_bind, a0, a1, a2], (a2 .sliceB).2, (a1 .sliceB).2, (a0 .sliceB).2⟩
theorem list_part {xs : List AV} {n : Nat} {a : Option Addr} {b o c m h l : Nat} {u : Nat → Value} {tk : Tok} (hun : uni n xs = true) (L : ListAt g xs n a b o u) (hm : c ≤ maxLen) (hn : a = none → c = 0)
    (hl : l ≤ h) (hh : h ≤ xs.length) (hhm : h ≤ m) (hmc : m ≤ c) (ht : TokRel g (.slice (if m = l then a else a.map (·.add (l * n))) (h - l) (m - l)) (h - l) (m - l) tk) :
    VRel g (.list ((xs.take h).drop l) tk) (.slice (if m = l then a else a.map (·.add (l * n))) (h - l) (m - l)) := by
  have hlen : ((xs.take h).drop l).length = h - l := by simp; omega
  have hu' : uni n ((xs.take h).drop l) = true := by
    unfold uni at hun ⊢
    rw [List.all_eq_true] at hun ⊢
    exact fun x hx => hun x (List.mem_of_mem_take (List.mem_of_mem_drop hx))
  have hget : ∀ j (hj : j < ((xs.take h).drop l).length), ((xs.take h).drop l)[j] = xs[l + j]'(by rw [hlen] at hj; omega) := fun j hj => by simp
  have L' : ListAt g ((xs.take h).drop l) n (if m = l then a else a.map (·.add (l * n))) b (o + l * n) (fun q => u (l * n + q)) := by
    refine ⟨fun h0 => ?_, fun j hj i hi => ?_, fun j hj i hi => ?_⟩
    · rw [hlen] at h0
      rw [if_neg (by omega), L.ha (by omega)]
      simp [Addr.add_lit]
    · rw [hlen] at hj
      have := L.cell (l + j) (by omega) i hi
      rw [Nat.add_mul, Nat.add_assoc] at this
      rw [Nat.add_assoc]; exact this
    · have hj' := hj
      rw [hlen] at hj'
      have := L.rel (l + j) (by omega) i (by rw [hget j hj] at hi; exact hi)
      rw [Nat.add_mul, Nat.add_assoc] at this
      simp only [hget j hj]
      exact this
  have hA : (if m = l then a else a.map (·.add (l * n))) = none → m - l = 0 := by
    intro e
    split at e
    · omega
    · have : a = none := by cases a with
        | none => rfl
        | some x => simp at e
      have := hn this
      omega
  have := VRel.of_listAt (t := tk) (c := m - l) hu' L' (by rw [hlen]; omega) (by omega) hA (by rw [hlen]; exact ht)
  rw [hlen] at this
  exact this
theorem aslice_sound {t : TypeId} {x z : AV} {lo hi mx : Option AV} (h : aslice P t x lo hi mx = some z) {vx : Value} {vl vh vm : Option Value} (hx : VRel g x vx) (rl : OptRel g lo vl) (rh : OptRel g hi vh) (rm : OptRel g mx vm) :
    Yield P g z (Instr.sliceAt t vx vl vh vm) := by
  unfold aslice at h
  split at h
  · rename_i s hu
    split at h
    · rename_i h' e1
      split at h
      · rename_i l e2
        injection h with h; subst h
        have hvm : vm = none := by cases vm with
          | none => rfl
          | some v => exact rm.elim
        subst hvm
        rw [hx.str_eq]
        refine ⟨.string ((⟨s.toArray⟩ : ByteArray).extract l h'), ?_, fun w _ => ?_⟩
        · have hb := (bounds_run (P := P) (b := false) (Nat.le_refl s.length) e1 e2 rl rh default).2
          have e : (⟨s.toArray⟩ : ByteArray).extract l h' = ⟨((s.take h').drop l).toArray⟩ := by
            apply ByteArray.ext; apply Array.ext'; simp [ByteArray.data_extract, List.drop_take]
          rw [e]; exact .str _
        · have hsz : (⟨s.toArray⟩ : ByteArray).size = s.length := rfl
          have hb := (bounds_run (P := P) (b := false) (Nat.le_refl s.length) e1 e2 rl rh w).1
          simp [Instr.sliceAt, run_underlying hu, Instr.slice, hsz, hb]
      · cases h
    · cases h
  · rename_i e xs tk hu
    split at h
    · cases h
    · rename_i n hs
      split at h
      · rename_i hun
        obtain ⟨a, c, rfl, hc, hm, hn, htk, hL⟩ := hx.list_eq
        obtain ⟨b, o, u, L⟩ := hL n hun
        split at h
        · split at h
          · rename_i h' e1
            split at h
            · rename_i l e2
              injection h with h; subst h
              have hvm : vm = none := by cases vm with
                | none => rfl
                | some v => exact rm.elim
              subst hvm
              have hb := (bounds_run (P := P) (b := true) hc e1 e2 rl rh default).2
              refine ⟨_, list_part (m := c) hun L hm hn hb.1 hb.2 (by omega) (Nat.le_refl _) ?_, fun w _ => ?_⟩
              · by_cases e0 : l = 0 ∧ h' = xs.length
                · rw [show tk.cut l h' xs.length = tk from if_pos e0]
                  obtain ⟨rfl, rfl⟩ := e0
                  have : (if c = 0 then a else a.map (·.add (0 * n))) = a := by
                    split
                    · rfl
                    · cases a with
                      | none => rfl
                      | some x => simp [Addr.add]
                  rw [this]
                  simpa using htk
                · by_cases e3 : tk = .full ∧ h' = xs.length
                  · rw [show tk.cut l h' xs.length = .full by rw [Tok.cut, if_neg e0, if_pos e3]]
                    obtain ⟨rfl, rfl⟩ := e3
                    have : c = xs.length := htk
                    show c - l = _
                    omega
                  · rw [show tk.cut l h' xs.length = .no by rw [Tok.cut, if_neg e0, if_neg e3]]
                    trivial
              · have hb := (bounds_run (P := P) (b := true) hc e1 e2 rl rh w).1
                simp [Instr.sliceAt, run_underlying hu, Instr.slice, hb, sizeT_run hs]
            · cases h
          · cases h
        · rename_i xm
          split at h
          · rename_i m xh e0 
            split at h
            · rename_i h' e1
              split at h
              · rename_i l e2
                injection h with h; subst h
                cases vm with
                | none => exact rm.elim
                | some vm => cases vh with
                  | none => exact rh.elim
                  | some vh =>
                    have hb := (bounds3_run (P := P) hc e0 e1 e2 rl rh rm default).2
                    refine ⟨_, list_part (m := m) hun L hm hn hb.1 (by omega) hb.2.1 (by omega) ?_, fun w _ => ?_⟩
                    · by_cases e : m = h'
                      · rw [if_pos e]; subst e; rfl
                      · rw [if_neg e]; trivial
                    · have hb := (bounds3_run (P := P) hc e0 e1 e2 rl rh rm w).1
                      simp [Instr.sliceAt, run_underlying hu, Instr.slice, hb, sizeT_run hs]
              · cases h
            · cases h
          · cases h
      · cases h
  · rename_i e id off n c hu
    split at h
    · cases h
    · rename_i k hs
      have hkl : ∀ l, (if k = 1 then l else l * k) = l * k := fun l => by split <;> simp [*]
      simp only [hkl] at h
      obtain ⟨hid, b, o, hb', hc, hm, ho, rfl⟩ := hx.arr_eq
      split at h
      · split at h
        · rename_i h' e1
          split at h
          · rename_i l e2
            injection h with h; subst h
            have hvm : vm = none := by cases vm with
              | none => rfl
              | some v => exact rm.elim
            subst hvm
            have hb := (bounds_run (P := P) (b := true) hc e1 e2 rl rh default).2
            refine ⟨.slice (some ⟨b, if c = l then o else o + l * k, none⟩) (h' - l) (c - l), .arr _ _ _ _ b _ hid hb' (by omega) (by omega) (fun hp => by rw [if_neg (by omega), ho (by omega)]), fun w _ => ?_⟩
            have hb2 := (bounds_run (P := P) (b := true) hc e1 e2 rl rh w).1
            by_cases hcl : c = l
            · simp only [Instr.sliceAt, run_underlying hu, Instr.slice, hb2, Sem.run_bind, Result.andThen_ok, sizeT_run hs, Sem.run_pure]
              simp [hcl]
            · simp only [Instr.sliceAt, run_underlying hu, Instr.slice, hb2, Sem.run_bind, Result.andThen_ok, sizeT_run hs, Sem.run_pure]
              simp [hcl, Addr.add_lit]
          · cases h
        · cases h
      · split at h
        · rename_i m xh e0
          split at h
          · rename_i h' e1
            split at h
            · rename_i l e2
              injection h with h; subst h
              cases vm with
              | none => exact rm.elim
              | some vm => cases vh with
                | none => exact rh.elim
                | some vh =>
                  have hb := (bounds3_run (P := P) hc e0 e1 e2 rl rh rm default).2
                  refine ⟨.slice (some ⟨b, if m = l then o else o + l * k, none⟩) (h' - l) (m - l), .arr _ _ _ _ b _ hid hb' (by omega) (by omega) (fun hp => by rw [if_neg (by omega), ho (by omega)]), fun w _ => ?_⟩
                  have hb2 := (bounds3_run (P := P) hc e0 e1 e2 rl rh rm w).1
                  by_cases hcl : m = l
                  · simp only [Instr.sliceAt, run_underlying hu, Instr.slice, hb2, Sem.run_bind, Result.andThen_ok, sizeT_run hs, Sem.run_pure]
                    simp [hcl]
                  · simp only [Instr.sliceAt, run_underlying hu, Instr.slice, hb2, Sem.run_bind, Result.andThen_ok, sizeT_run hs, Sem.run_pure]
                    simp [hcl, Addr.add_lit]
            · cases h
          · cases h
        · cases h
  · cases h
end
end Go.Proofs.Ytajgeofhlgoifaa.V
