/- Operations that read nothing but what is fixed: slices, conversions, structs. No program is named here. -/
import Derived.Test.YtajgeofhlgoifaaV5
set_option linter.unusedVariables false
set_option linter.unusedSimpArgs false
namespace Go.Proofs.Ytajgeofhlgoifaa.V
open Go Go.RowKit

def uni (n : Nat) (xs : List AV) : Bool := xs.all fun x => x.cells.length == n
theorem uni_spec {n : Nat} {xs : List AV} (h : uni n xs = true) (j : Nat) (hj : j < xs.length) : xs[j].cells.length = n := by
  have := List.all_eq_true.1 h xs[j] (List.getElem_mem hj)
  simpa using this

/-- What is known of a slice's cells. -/
structure ListAt (g : Ghost) (xs : List AV) (n : Nat) (a : Option Addr) (b o : Nat) (u : Nat → Value) : Prop where
  ha : 0 < xs.length → a = some ⟨b, o, none⟩
  cell : ∀ j (h : j < xs.length) i, i < n → g.imm b (o + (j * n + i)) = some (u (j * n + i))
  rel : ∀ j (h : j < xs.length) i (h' : i < xs[j].cells.length), VRel g xs[j].cells[i] (u (j * n + i))
theorem VRel.list_eq {g : Ghost} {xs : List AV} {t : Tok} {v : Value} (h : VRel g (.list xs t) v) :
    ∃ a c, v = .slice a xs.length c ∧ xs.length ≤ c ∧ c ≤ maxLen ∧ (a = none → c = 0) ∧ TokRel g v xs.length c t ∧ ∀ n, uni n xs = true → ∃ b o u, ListAt g xs n a b o u := by
  cases h with
  | list _ _ a c k b o u hc hm hn hk ha h1 h2 ht =>
    refine ⟨a, c, rfl, hc, hm, hn, ht, fun n hu => ?_⟩
    by_cases hx : 0 < xs.length
    · have : k = n := by rw [← hk 0 hx, uni_spec hu 0 hx]
      subst this
      exact ⟨b, o, u, ha, fun j hj i hi => h1 j hj i (by rw [hk j hj]; exact hi), fun j hj i hi => h2 j hj i hi⟩
    · exact ⟨b, o, u, fun h => absurd h hx, fun j hj => absurd hj (by omega), fun j hj => absurd hj (by omega)⟩
theorem VRel.of_listAt {g : Ghost} {xs : List AV} {n : Nat} {a : Option Addr} {b o c : Nat} {u : Nat → Value} {t : Tok} (hu : uni n xs = true) (l : ListAt g xs n a b o u) (hc : xs.length ≤ c) (hm : c ≤ maxLen) (hn : a = none → c = 0)
    (ht : TokRel g (.slice a xs.length c) xs.length c t) : VRel g (.list xs t) (.slice a xs.length c) :=
  .list xs t a c n b o u hc hm hn (fun j hj => uni_spec hu j hj) l.ha (fun j hj i hi => l.cell j hj i (by rw [← uni_spec hu j hj]; exact hi)) l.rel ht

/-! Reading. -/
def aidx (P : Program) (t : TypeId) (x i : AV) : Option AV :=
  match P.underlying t, x, i with
  | some (.slice e), .list xs _, .int _ i =>
    if 0 ≤ i then match xs[i.toNat]?, sizeT P e with
      | some y, some n => if uni n xs then some (.ref y.cells 0) else none
      | _, _ => none
    else none
  | some (.slice e), .arr id off n _, .int _ i =>
    match sizeT P e with
    | some k => if 0 ≤ i ∧ i < n then some (.ptr id (off + i.toNat * k)) else none
    | none => none
  | some (.array m e), .ptr id off, .int _ i =>
    match sizeT P e with
    | some n => if 0 ≤ i ∧ i < m then some (.ptr id (off + i.toNat * n)) else none
    | none => none
  | some (.array m e), .ref cs off, .int _ i =>
    match sizeT P e with
    | some n => if 0 ≤ i ∧ i < m then some (.ref cs (off + i.toNat * n)) else none
    | none => none
  | _, _, _ => none
def afieldAt (P : Program) (t : TypeId) (x : AV) (f : Nat) : Option AV :=
  match P.underlying t with
  | some (.struct fs) => match fs[f]? with
    | some fd => match sizeT P fd.type with
      | some n => if n = 0 then none else match x with
        | .ptr id off => some (.ptr id (off + fd.offset))
        | .ref cs off => some (.ref cs (off + fd.offset))
        | _ => none
      | none => none
    | none => none
  | _ => none
def afield (P : Program) (t : TypeId) (x : AV) (f : Nat) : Option AV :=
  match P.underlying t, x with
  | some (.struct fs), .agg cs => match fs[f]? with
    | some fd => partA P fd.type cs fd.offset
    | none => none
  | _, _ => none
def aindex (P : Program) (t : TypeId) (x i : AV) : Option AV :=
  match P.underlying t, x, i with
  | some (.array m e), .agg cs, .int _ i =>
    match sizeT P e with
    | some n => if 0 ≤ i ∧ i < m then partA P e cs (i.toNat * n) else none
    | none => none
  | some .string, .str s, .int _ i => if 0 ≤ i then match s[i.toNat]? with
      | some b => some (.int .u8 b.toNat)
      | none => none
    else none
  | _, _, _ => none
def aloadRef (P : Program) (t : TypeId) (x : AV) : Option AV :=
  match x with
  | .ref cs off => partA P t cs off
  | _ => none

section
variable {P : Program} {g : Ghost}
theorem VRel.ref_eq {cs : List AV} {off : Nat} {v : Value} (h : VRel g (.ref cs off) v) : ∃ (b o : Nat) (u : Nat → Value), v = .pointer (some ⟨b, o + off, none⟩) ∧ (∀ i, i < cs.length → g.imm b (o + i) = some (u i)) ∧ ∀ i (h : i < cs.length), VRel g cs[i] (u i) := by
  cases h with
  | ref _ _ b o u h1 h2 => exact ⟨b, o, u, rfl, h1, h2⟩
theorem run_indexAt_sl {t e : TypeId} {a : Addr} {len cap n : Nat} {k : IntKind} {i : Int} (h : P.underlying t = some (.slice e)) (hs : sizeT P e = some n) (h0 : 0 ≤ i) (h1 : i < len) (w : World) :
    (Instr.indexAt t (.slice (some a) len cap) (.int k i)).run P w = .ok (.pointer (some (a.add (i.toNat * n)))) w := by
  simp [Instr.indexAt, asIntOf, run_underlying h, sizeT_run hs, h0, h1]
theorem run_indexAt_ar {t e : TypeId} {a : Addr} {m n : Nat} {k : IntKind} {i : Int} (h : P.underlying t = some (.array m e)) (hs : sizeT P e = some n) (h0 : 0 ≤ i) (h1 : i < m) (w : World) :
    (Instr.indexAt t (.pointer (some a)) (.int k i)).run P w = .ok (.pointer (some (a.add (i.toNat * n)))) w := by
  simp [Instr.indexAt, asIntOf, run_underlying h, sizeT_run hs, h0, h1, Instr.sureAddr]
theorem aidx_sound {t : TypeId} {x i z : AV} (h : aidx P t x i = some z) {vx vi : Value} (hx : VRel g x vx) (hi : VRel g i vi) : Yield P g z (Instr.indexAt t vx vi) := by
  unfold aidx at h
  split at h
  · rename_i e xs tk k i hu
    rw [hi.int_eq]
    split at h
    · rename_i h0
      split at h
      · rename_i y n hy hs
        split at h
        · rename_i hun
          injection h with h
          subst h
          obtain ⟨hl, he⟩ := List.getElem?_eq_some_iff.1 hy
          obtain ⟨a, c, rfl, hc, hm, hn, _, hL⟩ := hx.list_eq
          obtain ⟨b, o, u, L⟩ := hL n hun
          obtain rfl := L.ha (by omega)
          have hyn : y.cells.length = n := by rw [← he]; exact uni_spec hun _ hl
          refine ⟨.pointer (some ⟨b, o + i.toNat * n + 0, none⟩), .ref _ 0 b (o + i.toNat * n) (fun q => u (i.toNat * n + q)) (fun q hq => ?_) (fun q hq => ?_), fun w _ => ?_⟩
          · have := L.cell i.toNat hl q (by omega)
            rw [Nat.add_assoc]; exact this
          · have := L.rel i.toNat hl q (by rw [he]; exact hq)
            simpa only [he] using this
          · rw [run_indexAt_sl hu hs h0 (by omega) w, Addr.add_lit]; rfl
        · cases h
      · cases h
    · cases h
  · rename_i e id off n c k i hu
    rw [hi.int_eq]
    split at h
    · rename_i sz hs
      split at h
      · rename_i hb
        obtain ⟨h0, hin⟩ := hb
        injection h with h; subst h
        obtain ⟨hid, b, o, hb', hc, hm, ho, rfl⟩ := hx.arr_eq
        obtain rfl := ho (by omega)
        refine ⟨_, .ptr id _ b hid hb', fun w _ => ?_⟩
        rw [run_indexAt_sl hu hs h0 (by omega) w, Addr.add_lit]
      · cases h
    · cases h
  · rename_i m e id off k i hu
    rw [hi.int_eq]
    split at h
    · rename_i n hs
      split at h
      · rename_i hb
        injection h with h; subst h
        obtain ⟨hid, b, hb', rfl⟩ := hx.ptr_eq
        refine ⟨_, .ptr id _ b hid hb', fun w _ => ?_⟩
        rw [run_indexAt_ar hu hs hb.1 hb.2 w, Addr.add_lit]
      · cases h
    · cases h
  · rename_i m e cs off k i hu
    rw [hi.int_eq]
    split at h
    · rename_i n hs
      split at h
      · rename_i hb
        injection h with h; subst h
        obtain ⟨b, o, u, rfl, h1, h2⟩ := hx.ref_eq
        refine ⟨_, .ref cs _ b o u h1 h2, fun w _ => ?_⟩
        rw [run_indexAt_ar hu hs hb.1 hb.2 w, Addr.add_lit, Nat.add_assoc]
      · cases h
    · cases h
  · cases h
theorem afieldAt_sound {t : TypeId} {x z : AV} {f : Nat} (h : afieldAt P t x f = some z) {vx : Value} (hx : VRel g x vx) : Yield P g z (Instr.fieldAt t vx f) := by
  unfold afieldAt at h
  split at h
  · rename_i fs hu
    split at h
    · rename_i fd hf
      split at h
      · rename_i n hs
        split at h
        · cases h
        · rename_i hn
          have hr : ∀ (a : Addr) w, (Instr.fieldAt t (.pointer (some a)) f).run P w = .ok (.pointer (some (a.add fd.offset))) w := fun a w => by
            simp [Instr.fieldAt, run_underlying hu, hf, Instr.sureAddr, fieldPlace, sizeT_run hs, hn]
          split at h
          · injection h with h; subst h
            obtain ⟨hid, b, hb', rfl⟩ := hx.ptr_eq
            exact ⟨_, .ptr _ _ b hid hb', fun w _ => by rw [hr, Addr.add_lit]⟩
          · injection h with h; subst h
            obtain ⟨b, o, u, rfl, h1, h2⟩ := hx.ref_eq
            exact ⟨_, .ref _ _ b o u h1 h2, fun w _ => by rw [hr, Addr.add_lit, Nat.add_assoc]⟩
          · cases h
      · cases h
    · cases h
  · cases h
theorem afield_sound {t : TypeId} {x z : AV} {f : Nat} (h : afield P t x f = some z) {vx : Value} (hx : VRel g x vx) : Yield P g z (Instr.field t vx f) := by
  unfold afield at h
  split at h
  · rename_i fs cs hu
    split at h
    · rename_i fd hf
      obtain ⟨vs, rfl, hc⟩ := hx.agg_cells
      obtain ⟨v, hv, hr⟩ := partA_sound h hc
      exact ⟨v, hv, fun w _ => by simp [Instr.field, run_underlying hu, hf, asAgg, hr]⟩
    · cases h
  · cases h
theorem aindex_sound {t : TypeId} {x i z : AV} (h : aindex P t x i = some z) {vx vi : Value} (hx : VRel g x vx) (hi : VRel g i vi) : Yield P g z (Instr.index t vx vi) := by
  unfold aindex at h
  split at h
  · rename_i m e cs k i hu
    rw [hi.int_eq]
    split at h
    · rename_i n hs
      split at h
      · rename_i hb
        obtain ⟨vs, rfl, hc⟩ := hx.agg_cells
        obtain ⟨v, hv, hr⟩ := partA_sound h hc
        exact ⟨v, hv, fun w _ => by simp [Instr.index, asIntOf, run_underlying hu, hb, sizeT_run hs, hr]⟩
      · cases h
    · cases h
  · rename_i s k i hu
    rw [hi.int_eq, hx.str_eq]
    split at h
    · rename_i h0
      split at h
      · rename_i b hb
        injection h with h; subst h
        obtain ⟨hl, he⟩ := List.getElem?_eq_some_iff.1 hb
        have hsz : (⟨s.toArray⟩ : ByteArray).size = s.length := rfl
        refine ⟨_, .int _ _, fun w _ => ?_⟩
        rw [run_index_string w t _ k i hu, dif_pos ⟨h0, by rw [hsz]; omega⟩]
        have : ((⟨s.toArray⟩ : ByteArray)[i.toNat]'(by rw [hsz]; omega)) = b := by
          rw [← he]; rfl
        rw [this]
      · cases h
    · cases h
  · cases h
theorem aloadRef_sound {t : TypeId} {x z : AV} (h : aloadRef P t x = some z) {vx : Value} (hx : VRel g x vx) : Yield P g z (Instr.loadAt t vx) := by
  unfold aloadRef at h
  split at h
  · rename_i cs off
    obtain ⟨b, o, u, rfl, h1, h2⟩ := hx.ref_eq
    unfold partA at h
    cases ha : isAggT P t with
    | none => rw [ha] at h; cases h
    | some bb =>
      rw [ha] at h
      cases bb with
      | true =>
        cases hs : sizeT P t with
        | none => rw [hs] at h; cases h
        | some n =>
          rw [hs] at h
          simp only at h
          split at h
          · rename_i hl
            injection h with h; subst h
            refine ⟨.agg ((List.range n).map fun i => u (off + i)).toArray, .agg _ _ (by simp; omega) fun i a c => ?_, fun w hag => ?_⟩
            · simp only [List.getElem_toArray, List.getElem_map, List.getElem_range, List.getElem_take, List.getElem_drop]
              exact h2 (off + i) (by simp at a; omega)
            · have hc : ∀ j v, ((List.range n).map fun i => u (off + i))[j]? = some v → w.cell? ((⟨b, o + off, none⟩ : Addr).add j) = some v := fun j v hj => by
                rw [Addr.add_lit]
                obtain ⟨hj1, hj2⟩ := List.getElem?_eq_some_iff.1 hj
                simp at hj1 hj2
                rw [← hj2, Nat.add_assoc]
                exact hag _ _ _ (h1 (off + j) (by omega))
              have hl := run_loadCells_list (P := P) w ⟨b, o + off, none⟩ _ hc
              have hlen : ((List.range n).map fun i => u (off + i)).length = n := by simp
              rw [hlen] at hl
              simp only [Instr.loadAt, Instr.sureAddr, loadVar, Sem.run_bind, Sem.run_pure, Result.andThen_ok, isAggT_run ha, if_true, sizeT_run hs, hl]
          · cases h
      | false =>
        simp only at h
        obtain ⟨hl, he⟩ := List.getElem?_eq_some_iff.1 h
        refine ⟨u off, by rw [← he]; exact h2 off hl, fun w hag => ?_⟩
        have := hag _ _ _ (h1 off hl)
        simp [Instr.loadAt, Instr.sureAddr, loadVar, Sem.run_bind, isAggT_run ha, run_load, this]
  · cases h
end
end Go.Proofs.Ytajgeofhlgoifaa.V
