/- Operations on the heap: new slices. No program is named here. -/
import Derived.Test.YtajgeofhlgoifaaV10
import Derived.Laws.AppendOwn
import Derived.Laws.MakeOwn
import Derived.Lib.AppendStr
import Derived.Laws.IdiomStrings
set_option linter.unusedVariables false
set_option linter.unusedSimpArgs false
namespace Go.Proofs.Ytajgeofhlgoifaa.V
open Go Go.RowKit

def chunk (agg : Bool) (k : Nat) : Nat → List AV → List AV
  | 0, _ => []
  | n + 1, cs => (if agg = true then .agg (cs.take k) else cs.headD .undef) :: chunk agg k n (cs.drop k)
theorem chunk_length (agg : Bool) (k : Nat) : ∀ (n : Nat) (cs : List AV), (chunk agg k n cs).length = n
  | 0, _ => rfl
  | n + 1, cs => by simp [chunk, chunk_length agg k n]
theorem one_cells {x : AV} (h : x.one = true) : x.cells = [x] := by cases x <;> first | rfl | cases h
theorem chunk_cells (agg : Bool) (k : Nat) : ∀ (n : Nat) (cs : List AV), n * k ≤ cs.length → (agg = true ∨ (k = 1 ∧ ones cs = true)) →
    uni k (chunk agg k n cs) = true ∧ ∀ j (hj : j < (chunk agg k n cs).length) i, i < k → (chunk agg k n cs)[j].cells[i]? = cs[j * k + i]?
  | 0, cs, _, _ => ⟨rfl, fun j hj => absurd hj (by simp [chunk])⟩
  | n + 1, cs, hl, hk => by
    have hl' : n * k ≤ (cs.drop k).length := by simp; rw [Nat.add_mul] at hl; omega
    have hkk : k ≤ cs.length := by rw [Nat.add_mul] at hl; omega
    obtain ⟨h1, h2⟩ := chunk_cells agg k n (cs.drop k) hl' (hk.imp id fun h => ⟨h.1, by
      have := h.2
      unfold ones at this ⊢
      rw [List.all_eq_true] at this ⊢
      exact fun x hx => this x (List.mem_of_mem_drop hx)⟩)
    have hc : (if agg = true then AV.agg (cs.take k) else cs.headD .undef).cells = cs.take k := by
      rcases hk with hk | ⟨rfl, hk⟩
      · rw [if_pos hk]; rfl
      · split
        · rfl
        · cases cs with
          | nil => simp at hkk
          | cons c cs =>
            have : c.one = true := by unfold ones at hk; simp at hk; exact hk.1
            simp [one_cells this]
    refine ⟨?_, fun j hj i hi => ?_⟩
    · unfold uni at h1 ⊢
      simp only [chunk, List.all_cons, Bool.and_eq_true]
      exact ⟨by rw [hc]; simp; omega, h1⟩
    · cases j with
      | zero => simp only [chunk, List.getElem_cons_zero, hc]; simp [hi]
      | succ j =>
        simp only [chunk, List.getElem_cons_succ]
        rw [h2 j (by simp [chunk] at hj; exact hj) i hi, List.getElem?_drop]
        congr 1
        rw [Nat.succ_mul]; omega

theorem rep_flat {z : List AV} : ∀ (n i : Nat), i < n * z.length → (List.replicate n z).flatten[i]? = z[i % z.length]?
  | 0, i, h => by simp at h
  | n + 1, i, h => by
    rw [List.replicate_succ, List.flatten_cons]
    by_cases hi : i < z.length
    · rw [List.getElem?_append_left hi, Nat.mod_eq_of_lt hi]
    · rw [List.getElem?_append_right (by omega), rep_flat n (i - z.length) (by rw [Nat.add_mul] at h; omega), ← Nat.mod_eq_sub_mod (by omega)]
def ahBytes (P : Program) (src dst : TypeId) (x : AV) (h : AHeap) : Option (AV × AHeap) :=
  match P.underlying src, P.underlying dst, x with
  | some .string, some (.slice e), .str s =>
    match P.underlying e with
    | some (.int .u8) => if s.length ≤ 9223372036854775807 then some (.list (s.map b8) .no, h) else none
    | _ => none
  | _, _, _ => none
def zeroCells (P : Program) (e : TypeId) : Option (List AV) :=
  match zeroA P e with
  | some z => if z.known = true then some z.cells else none
  | none => none
def ahBuildSlice (P : Program) (t : TypeId) (len : Nat) (parts : List (Nat × AV)) (h : AHeap) : Option (AV × AHeap) :=
  match P.underlying t with
  | some (.slice e) =>
    match sizeT P e, zeroCells P e, isAggT P e with
    | some k, some z, some agg =>
      if z.length = k ∧ len * k ≤ 16777216 ∧ 0 < k then
        match afill (fun i => some (i * k, k)) (List.replicate len z).flatten parts with
        | some cs => if agg = true ∨ (k = 1 ∧ ones cs = true) then some (.list (chunk agg k len cs) .full, h) else none
        | none => none
      else none
    | _, _, _ => none
  | _ => none

section
variable {P : Program} {w0 w : World} {g : Ghost} {h : AHeap}
theorem new_list (S : Sim w0 g h w) {xs : List AV} {k : Nat} (hu : uni k xs = true) (cells : Array Value) (e : TypeId) (fr : Nat × Nat) (hz : ∀ i n, i < xs.length * k → cells.getD i .nilIface = .int .i64 n → (w.alloc (.cells cells e fr)).frozen? ⟨w.heap.size, i, none⟩ = false) (hlen : xs.length * k ≤ cells.size)
    (hr : ∀ j (hj : j < xs.length) i (hi : i < xs[j].cells.length), VRel g xs[j].cells[i] (cells.getD (j * k + i) .nilIface)) :
    ∃ g', g.le g' ∧ (∀ i, g'.at_ i = g.at_ i) ∧ g'.n = g.n ∧ (∀ o, xs.length * k ≤ o → g'.imm w.heap.size o = none) ∧ Sim w0 g' h (w.alloc (.cells cells e fr)) ∧ ListAt g' xs k (some ⟨w.heap.size, 0, none⟩) w.heap.size 0 (fun q => cells.getD q .nilIface) := by
  have S1 := S.keep (alloc_below w (.cells cells e fr))
  have hcell : ∀ i, i < xs.length * k → (w.alloc (.cells cells e fr)).cell? ⟨w.heap.size, i, none⟩ = some (cells.getD i .nilIface) := fun i hi => by
    rw [cell_of_row _ _ _ _ _ _ (heap_alloc_new w _)]
    simp [Array.getD_eq_getD_getElem?, show i < cells.size by omega]
  obtain ⟨l, S2⟩ := S1.fix (b := w.heap.size) (lo := 0) (m := xs.length * k) (u := fun q => cells.getD q .nilIface) (fun i _ hi => hcell i hi) (fun i n _ hi e => hz i n hi e) (S.fresh (Nat.le_refl _))
  refine ⟨_, l, fun _ => rfl, rfl, fun o ho => ?_, S2, ⟨fun _ => rfl, fun j hj i hi => ?_, fun j hj i hi => (hr j hj i hi).mono l⟩⟩
  · rw [Ghost.fix_past ho]; exact S.fresh_imm (Nat.le_refl _) o
  · have : j * k + i < xs.length * k := by
      have : (j + 1) * k ≤ xs.length * k := Nat.mul_le_mul_right k hj
      rw [Nat.add_mul] at this; omega
    rw [Nat.zero_add]
    exact Ghost.fix_at (Nat.zero_le _) this
theorem ahBytes_sound {src dst : TypeId} {x z : AV} {h' : AHeap} (S : Sim w0 g h w) (e : ahBytes P src dst x h = some (z, h')) {vx : Value} (hx : VRel g x vx) : Gives P w0 g w z h' (convert src dst vx) := by
  unfold ahBytes at e
  split at e
  · rename_i el s hs hd
    split at e
    · rename_i he
      split at e
      · rename_i hl
        injection e with e
        simp only [Prod.mk.injEq] at e
        obtain ⟨rfl, rfl⟩ := e
        rw [hx.str_eq]
        have hr := run_bytes_of_string (P := P) w src dst el ⟨s.toArray⟩ hs hd he
        have hsz : (⟨s.toArray⟩ : ByteArray).size = s.length := rfl
        have hrow : s.length ≤ (bytesRow ⟨s.toArray⟩ (grownCap w s.length 0 el)).size := by simp [bytesRow]
        have hget : ∀ j (hj : j < s.length), (bytesRow ⟨s.toArray⟩ (grownCap w s.length 0 el)).getD j .nilIface = .int .u8 (s[j].toNat : Int) := fun j hj => by
          simp [bytesRow, Array.getD_eq_getD_getElem?, Array.getElem?_append, hj]
        obtain ⟨g', l, ha, hn', _, S2, L⟩ := new_list (S.drew) (xs := s.map b8) (k := 1) (uni_b8 s) (bytesRow ⟨s.toArray⟩ (grownCap w s.length 0 el)) el ((bytesRow ⟨s.toArray⟩ (grownCap w s.length 0 el)).size, (bytesRow ⟨s.toArray⟩ (grownCap w s.length 0 el)).size + 1) (fun i n hi _ => by
          unfold World.frozen?
          simp only [heap_alloc_new]
          simp at hi
          simp; omega) (by simpa using hrow) (fun j hj i hi => by
          have hj' : j < s.length := by simpa using hj
          have hi0 : i = 0 := by simp [b8, AV.cells] at hi; exact hi
          subst hi0
          have h4 : (List.map b8 s)[j] = b8 s[j] := by simp
          simp only [h4, b8, AV.cells, List.getElem_cons_zero, Nat.mul_one, Nat.add_zero]
          rw [hget j hj']; exact .int _ _)
        have hcap1 := grownCap_ge w s.length 0 el
        have hcap2 := grownCap_le_maxLen w s.length 0 el (by unfold maxLen; omega)
        have hlm : (s.map b8).length = s.length := by simp
        have V := VRel.of_listAt (t := .no) (c := grownCap w s.length 0 el) (uni_b8 s) L (by rw [hlm]; exact hcap1) hcap2 (fun h => by cases h) trivial
        rw [hlm] at V
        exact ⟨_, _, g', hr, l, V, S2⟩
      · cases e
    · cases e
  · cases e
theorem zeroCells_spec {e : TypeId} {z : List AV} (h : zeroCells P e = some z) : ∃ i v, P.info? e = some i ∧ i.zero = some v ∧ CellsRel g z v.cells.toList := by
  unfold zeroCells at h
  cases hz : zeroA P e with
  | none => rw [hz] at h; cases h
  | some a =>
    rw [hz] at h
    simp only at h
    split at h
    · rename_i hk
      injection h with h; subst h
      unfold zeroA at hz
      cases hi : P.info? e with
      | none => simp [hi] at hz
      | some it =>
        cases hzz : it.zero with
        | none => simp [hi, hzz] at hz
        | some zv =>
          have hz1 : AV.ofConst zv = a := by simpa [hi, hzz] using hz
          have hzr : VRel g a zv := by rw [← hz1]; exact .ofConst g zv
          obtain ⟨c1, c2⟩ := hzr.cells (by rintro rfl; cases hk)
          exact ⟨it, zv, rfl, hzz, by simpa using c1, fun i a b => by simpa using c2 i a (by simpa using b)⟩
    · cases h
theorem ahBuildSlice_sound {t : TypeId} {len : Nat} {parts : List (Nat × AV)} {vparts : Array (Nat × Value)} {z : AV} {h' : AHeap} (S : Sim w0 g h w) (e : ahBuildSlice P t len parts h = some (z, h')) (hl : parts.length = vparts.size)
    (hp : ∀ i (h : i < parts.length) (h' : i < vparts.size), parts[i].1 = vparts[i].1 ∧ VRel g parts[i].2 vparts[i].2) : Gives P w0 g w z h' (Instr.buildSlice t len vparts) := by
  unfold ahBuildSlice at e
  split at e
  · rename_i el hu
    split at e
    · rename_i k zc agg hs hz ha
      split at e
      · rename_i hc
        obtain ⟨hzl, hlim, hk0⟩ := hc
        split at e
        · rename_i cs hf
          split at e
          · rename_i hone
            injection e with e
            simp only [Prod.mk.injEq] at e
            obtain ⟨rfl, rfl⟩ := e
            obtain ⟨it, zv, hi, hzv, hzr⟩ := zeroCells_spec (P := P) (g := g) hz
            have hzs : zv.cells.size = k := by have := hzr.1; simp at this; omega
            have hsz : it.size = k := by have := hs; simp [sizeT, hi] at this; exact this
            obtain ⟨vs', hfill, hrel⟩ := afill_sound (g := g) (vs := (Array.range (len * k)).map (fun i => zv.cells[i % zv.cells.size]!)) (vparts := vparts.toList) hf ⟨by simp [hzl], fun i a b => by
                have hi' : i < len * k := by simpa [hzl] using a
                have hm : i % k < k := Nat.mod_lt _ hk0
                have hlt : i % k < zv.cells.size := by omega
                have := hzr.2 (i % k) (by omega) (by simpa using hlt)
                have e1 := rep_flat (z := zc) len i (by rw [hzl]; exact hi')
                rw [List.getElem?_eq_getElem a, hzl, List.getElem?_eq_getElem (by omega)] at e1
                injection e1 with e1
                rw [e1]
                simp only [Array.getElem_toList, Array.getElem_map, Array.getElem_range]
                rw [hzs, getElem!_pos zv.cells (i % k) hlt]
                simpa using this⟩ (by simpa using hl) (fun i a b => by simpa using hp i a (by simpa using b))
            have hcl : cs.length = len * k := by
              have h1 := hrel.1
              have gen : ∀ (ps : List (Nat × AV)) (c c' : List AV), afill (fun i => some (i * k, k)) c ps = some c' → c'.length = c.length := by
                intro ps
                induction ps with
                | nil => intro c c' h; simp [afill] at h; rw [h]
                | cons p ps ih =>
                  intro c c' h
                  obtain ⟨pi, pv⟩ := p
                  unfold afill at h
                  simp only at h
                  split at h
                  · rename_i hcond
                    simp only [Bool.and_eq_true, decide_eq_true_eq] at hcond
                    rw [ih _ _ h]
                    simp [V.over]; omega
                  · cases h
              rw [gen _ _ _ hf]; simp [hzl]
            obtain ⟨hun, hcc⟩ := chunk_cells agg k len cs (by omega) hone
            have hchl := chunk_length agg k len cs
            obtain ⟨g', l, _, _, _, S2, L⟩ := new_list S hun vs' el (0, 0) (fun i n _ _ => frozen_no (heap_alloc_new w _)) (by rw [hchl]; have := hrel.1; simp at this; omega) (fun j hj i hi' => by
              have hk' := uni_spec hun j hj
              have hj2 : j < len := by omega
              have e1 := hcc j hj i (by omega)
              have hlt : j * k + i < cs.length := by
                have : (j + 1) * k ≤ len * k := Nat.mul_le_mul_right k hj2
                rw [Nat.add_mul] at this; omega
              rw [List.getElem?_eq_getElem hi', List.getElem?_eq_getElem hlt] at e1
              injection e1 with e1
              rw [e1]
              have hvs : j * k + i < vs'.size := by have := hrel.1; simp at this; omega
              have := hrel.2 (j * k + i) hlt (by simpa using hvs)
              simpa [Array.getD_eq_getD_getElem?, hvs] using this)
            have hlen : len ≤ maxLen := by
              have : len * 1 ≤ len * k := Nat.mul_le_mul_left len hk0
              unfold maxLen; omega
            have V := VRel.of_listAt (t := .full) (c := len) hun L (by rw [hchl]; exact Nat.le_refl _) hlen (fun h => by cases h) (by show len = _; rw [hchl])
            rw [hchl] at V
            refine ⟨_, _, g', ?_, l, V, S2⟩
            have h24 : ¬ (len * k > 2 ^ 24) := by omega
            by_cases h0 : len * k = 0
            · have hr0 : (Array.range (len * k)).map (fun i => zv.cells[i % zv.cells.size]!) = (Array.range (len * k)).map (fun i => (#[] : Array Value)[i % (#[] : Array Value).size]!) := by
                rw [h0]; simp [Array.range_zero']
              rw [hr0] at hfill
              rw [h0] at hfill
              have h24' : ¬ (0 > 2 ^ 24) := by omega
              simp only [Instr.buildSlice, Sem.run_bind, run_underlying hu, Result.andThen_ok, sizeT_run hs, h0, if_neg h24', if_true, Sem.run_pure, hfill]
              simp [newRow, newObj, Sem.run_bind, Sem.run]
            · have hzz : (zeroValue el).run P w = .ok zv w := by simp [zeroValue, typeInfo, hi, hzv]
              simp only [Instr.buildSlice, Sem.run_bind, run_underlying hu, Result.andThen_ok, sizeT_run hs, if_neg h24, if_neg h0, hzz, Sem.run_pure]
              simp only [hfill]
              simp [newRow, newObj, Sem.run_bind, Sem.run]
          · cases e
        · cases e
      · cases e
    · cases e
  · cases e
end
end Go.Proofs.Ytajgeofhlgoifaa.V
