/- Operations that read nothing but what is fixed: all of them. No program is named here. -/
import Derived.Test.YtajgeofhlgoifaaV7
set_option linter.unusedVariables false
set_option linter.unusedSimpArgs false
namespace Go.Proofs.Ytajgeofhlgoifaa.V
open Go Go.RowKit

def b8 (b : UInt8) : AV := .int .u8 (b.toNat : Int)
def byteOf : AV → Option UInt8
  | .int .u8 n => if 0 ≤ n ∧ n < 256 then some (UInt8.ofNat n.toNat) else none
  | _ => none
def bytesOf : List AV → Option (List UInt8)
  | [] => some []
  | x :: r => match byteOf x, bytesOf r with
    | some b, some l => some (b :: l)
    | _, _ => none
theorem byteOf_b8 (b : UInt8) : byteOf (b8 b) = some b := by
  have := b.toNat_lt
  simp only [byteOf, b8]
  rw [if_pos (by omega)]
  simp
theorem byteOf_spec {x : AV} {b : UInt8} (h : byteOf x = some b) : x = b8 b := by
  unfold byteOf at h
  split at h
  · rename_i n
    split at h
    · rename_i hn
      injection h with h
      subst h
      simp only [b8, AV.int.injEq, true_and]
      simp only [UInt8.toNat_ofNat']
      omega
    · cases h
  · cases h
theorem bytesOf_map (l : List UInt8) : bytesOf (l.map b8) = some l := by
  induction l with
  | nil => rfl
  | cons b l ih => simp [bytesOf, byteOf_b8, ih]
theorem bytesOf_spec : ∀ {xs : List AV} {l : List UInt8}, bytesOf xs = some l → xs = l.map b8
  | [], l, h => by simp [bytesOf] at h; subst h; rfl
  | x :: r, l, h => by
    unfold bytesOf at h
    cases hb : byteOf x with
    | none => simp [hb] at h
    | some b =>
      cases hr : bytesOf r with
      | none => simp [hb, hr] at h
      | some q =>
        simp [hb, hr] at h
        subst h
        rw [byteOf_spec hb, bytesOf_spec hr]; rfl
theorem uni_b8 (l : List UInt8) : uni 1 (l.map b8) = true := by
  unfold uni
  rw [List.all_eq_true]
  intro x hx
  obtain ⟨b, _, rfl⟩ := List.mem_map.1 hx
  rfl

def aconv (P : Program) (src dst : TypeId) (x : AV) : Option AV :=
  match P.underlying src, P.underlying dst, x with
  | some _, some (.int k), .int _ n => some (.int k (k.wrap n))
  | some _, some .string, .str s => some (.str s)
  | some (.slice e), some .string, .list xs _ =>
    match P.underlying e with
    | some (.int .u8) => match bytesOf xs with
      | some l => some (.str l)
      | none => none
    | _ => none
  | _, _, _ => none
def aun (op : UnOp) (x : AV) : Option AV :=
  match op, x with
  | .not, .bool b => some (.bool !b)
  | .neg, .int k n => some (.int k (k.wrap (0 - n)))
  | _, _ => none
/-- A method that is declared on the pointer itself. -/
def methT (P : Program) (t : TypeId) (name : String) : Option FuncId :=
  match P.info? t, P.underlying t with
  | some i, some (.pointer _) =>
    match i.methods.find? (·.name == name) with
    | some m => match m.path.toList, m.func with
      | [], some (f, true) => some f
      | _, _ => none
    | none => none
  | _, _ => none
theorem methT_spec {P : Program} {t : TypeId} {name : String} {f : FuncId} (h : methT P t name = some f) :
    ∃ i e m, P.info? t = some i ∧ P.underlying t = some (.pointer e) ∧ i.methods.find? (·.name == name) = some m ∧ m.path.toList = [] ∧ m.func = some (f, true) := by
  unfold methT at h
  split at h
  · rename_i i e hi hu
    split at h
    · rename_i m hm
      split at h
      · rename_i hp hf
        injection h with h; subst h
        exact ⟨i, e, m, hi, hu, hm, hp, hf⟩
      · cases h
    · cases h
  · cases h
theorem run_typeInfo {P : Program} {t : TypeId} {i : TypeInfo} (hi : P.info? t = some i) (w : World) : (typeInfo t).run P w = .ok i w := by
  simp [typeInfo, hi]
theorem run_method {P : Program} {t : TypeId} {name : String} {f : FuncId} (h : methT P t name = some f) (v : Value) (w : World) : (method (P.types.size + Made.depth) t v name).run P w = .ok (f, v) w := by
  obtain ⟨i, e, m, hi, hu, hm, hp, hf⟩ := methT_spec h
  rw [show P.types.size + Made.depth = (P.types.size + 99) + 1 from rfl]
  unfold method
  simp [run_typeInfo hi, hm, hp, hf, follow, receiverAt, run_underlying hu, Place.get]
theorem run_nilAhead {P : Program} {t : TypeId} {name : String} {f : FuncId} (h : methT P t name = some f) (v : Value) (w : World) : (nilAhead (P.types.size + Made.depth) t v name).run P w = .ok (some false) w := by
  obtain ⟨i, e, m, hi, hu, hm, hp, hf⟩ := methT_spec h
  rw [show P.types.size + Made.depth = (P.types.size + 99) + 1 from rfl]
  unfold nilAhead
  simp [run_typeInfo hi, hm, hp, hf, followBlind]
def methFn (P : Program) (name : String) (x : AV) : Option AV :=
  match x with
  | .iface t v => (methT P t name).map fun _ => .func (.method name) [.iface t v] []
  | _ => none
def anilCheck (P : Program) (x : AV) : Option AV :=
  match x with
  | .func (.method name) [y] [] => methFn P name y
  | .ptr id off => some (.ptr id off)
  | .ref cs off => some (.ref cs off)
  | .func (.func f) a b => some (.func (.func f) a b)
  | .iface t v => some (.iface t v)
  | _ => none
def aextract (x : AV) (i : Nat) : Option AV :=
  match x with
  | .tuple vs => vs[i]?
  | _ => none
def AV.known : AV → Bool
  | .undef => false
  | _ => true
def over (cells : List AV) (off : Nat) (vs : List AV) : List AV := cells.take off ++ vs ++ cells.drop (off + vs.length)
def afill (place : Nat → Option (Nat × Nat)) (cells : List AV) : List (Nat × AV) → Option (List AV)
  | [] => some cells
  | (i, v) :: rest =>
    match place i with
    | none => none
    | some (off, size) => if v.known && v.cells.length == size && decide (off + v.cells.length ≤ cells.length) then afill place (over cells off v.cells) rest else none
def zeroA (P : Program) (t : TypeId) : Option AV := (P.info? t).bind (·.zero) |>.map AV.ofConst
def placesOf (P : Program) (t : TypeId) : Option (Nat → Option (Nat × Nat)) :=
  match P.info? t, P.underlying t with
  | some it, some (.array _ e) =>
    match it.zero, P.info? e with
    | some z, some ie => some fun i => some (i * ie.size, ie.size)
    | _, _ => none
  | some it, some (.struct fields) =>
    match it.zero, fields.toList.mapM (fun f => (P.info? f.type).map fun i => (f.offset, i.size)) with
    | some z, some places => some fun i => places.toArray[i]?
    | _, _ => none
  | _, _ => none
def abuild (P : Program) (t : TypeId) (parts : List (Nat × AV)) : Option AV :=
  match placesOf P t, zeroA P t with
  | some pl, some z => if z.known = true then match afill pl z.cells parts with
      | some cs => some (.agg cs)
      | none => none
    else none
  | _, _ => none

section
variable {P : Program} {g : Ghost}
theorem foldl_set (off : Nat) : ∀ (l : List Value) (k : Nat) (cs : Array Value) (i : Nat), ((l.zipIdx k).foldl (fun cs (x : Value × Nat) => cs.setIfInBounds (off + x.2) x.1) cs)[i]? =
    if off + k ≤ i ∧ i < off + k + l.length ∧ i < cs.size then l[i - off - k]? else cs[i]?
  | [], k, cs, i => by simp; omega
  | v :: l, k, cs, i => by
    simp only [List.zipIdx_cons, List.foldl_cons]
    rw [foldl_set off l (k + 1) _ i]
    simp only [Array.size_setIfInBounds, List.length_cons]
    by_cases h1 : off + (k + 1) ≤ i ∧ i < off + (k + 1) + l.length ∧ i < cs.size
    · rw [if_pos h1, if_pos (by omega)]
      have : i - off - k = (i - off - (k + 1)) + 1 := by omega
      rw [this, List.getElem?_cons_succ]
    · rw [if_neg h1]
      by_cases h2 : off + k = i
      · by_cases h3 : i < cs.size
        · rw [if_pos (by omega)]
          have : i - off - k = 0 := by omega
          rw [this]
          subst h2
          simp [h3]
        · rw [if_neg (by omega)]
          simp [Array.getElem?_setIfInBounds, h3]
      · rw [if_neg (by omega), Array.getElem?_setIfInBounds, if_neg h2]
theorem CellsRel.get? {cs : List AV} {vs : List Value} (h : CellsRel g cs vs) {i : Nat} {x : AV} (hx : cs[i]? = some x) : ∃ v, vs[i]? = some v ∧ VRel g x v := by
  obtain ⟨hl, he⟩ := List.getElem?_eq_some_iff.1 hx
  have hl' : i < vs.length := by have := h.1; omega
  refine ⟨vs[i], List.getElem?_eq_getElem hl', ?_⟩
  have := h.2 i hl hl'
  rw [he] at this
  exact this
theorem CellsRel.of_get? {cs : List AV} {vs : List Value} (hl : cs.length = vs.length) (h : ∀ (i : Nat) (x : AV) (v : Value), cs[i]? = some x → vs[i]? = some v → VRel g x v) : CellsRel g cs vs :=
  ⟨hl, fun i a b => h i _ _ (List.getElem?_eq_getElem a) (List.getElem?_eq_getElem b)⟩
theorem over_get {cs xs : List AV} {off i : Nat} (hl : off + xs.length ≤ cs.length) : (over cs off xs)[i]? = if off ≤ i ∧ i < off + xs.length then xs[i - off]? else cs[i]? := by
  unfold over
  by_cases h1 : i < off
  · rw [if_neg (by omega), List.append_assoc, List.getElem?_append_left (by simp; omega), List.getElem?_take, if_pos h1]
  · by_cases h2 : i < off + xs.length
    · rw [if_pos (by omega), List.append_assoc, List.getElem?_append_right (by simp; omega), List.getElem?_append_left (by simp; omega)]
      congr 1; simp; omega
    · rw [if_neg (by omega), List.getElem?_append_right (by simp; omega), List.getElem?_drop]
      congr 1; simp; omega
theorem afill_sound {place : Nat → Option (Nat × Nat)} : ∀ {parts : List (Nat × AV)} {vparts : List (Nat × Value)} {cs cs' : List AV} {vs : Array Value}, afill place cs parts = some cs' → CellsRel g cs vs.toList →
    parts.length = vparts.length → (∀ i (h : i < parts.length) (h' : i < vparts.length), parts[i].1 = vparts[i].1 ∧ VRel g parts[i].2 vparts[i].2) → ∃ vs', Instr.fill place vs vparts = some vs' ∧ CellsRel g cs' vs'.toList
  | [], [], cs, cs', vs, h, hc, _, _ => by simp [afill] at h; subst h; exact ⟨vs, rfl, hc⟩
  | (i, x) :: parts, (i', v) :: vparts, cs, cs', vs, h, hc, hl, hp => by
    have h0 := hp 0 (by simp) (by simp)
    simp only [List.getElem_cons_zero] at h0
    obtain ⟨rfl, hv⟩ := h0
    unfold afill at h
    unfold Instr.fill
    cases hpl : place i with
    | none => rw [hpl] at h; cases h
    | some os =>
      obtain ⟨off, size⟩ := os
      rw [hpl] at h
      simp only at h ⊢
      split at h
      · rename_i hcond
        simp only [Bool.and_eq_true, beq_iff_eq, decide_eq_true_eq] at hcond
        obtain ⟨⟨hk, hsz⟩, hfit⟩ := hcond
        have hne : x ≠ .undef := by rintro rfl; cases hk
        obtain ⟨hvl, hvr⟩ := hv.cells hne
        have hcl : cs.length = vs.size := by simpa using hc.1
        have hcond2 : (v.cells.size ≠ size || off + v.cells.size > vs.size) = false := by simp; omega
        rw [if_neg (by simp [← hvl, hsz]; omega)]
        refine afill_sound (parts := parts) (vparts := vparts) (cs := over cs off x.cells) h ?_ (by simpa using hl) (fun j a b => hp (j + 1) (Nat.succ_lt_succ a) (Nat.succ_lt_succ b))
        have hfold : ∀ i, (v.cells.zipIdx.foldl (fun cs (x : Value × Nat) => cs.setIfInBounds (off + x.2) x.1) vs)[i]? = if off ≤ i ∧ i < off + v.cells.size ∧ i < vs.size then v.cells[i - off]? else vs[i]? := by
          intro i
          have := foldl_set off v.cells.toList 0 vs i
          rw [← Array.foldl_toList]
          simp only [Array.toList_zipIdx] at *
          simpa using this
        have hsize : (v.cells.zipIdx.foldl (fun cs (x : Value × Nat) => cs.setIfInBounds (off + x.2) x.1) vs).size = vs.size := by
          have gen : ∀ (l : List (Value × Nat)) (a : Array Value), (l.foldl (fun cs (x : Value × Nat) => cs.setIfInBounds (off + x.2) x.1) a).size = a.size := by
            intro l
            induction l with
            | nil => intro a; rfl
            | cons y l ih => intro a; simp only [List.foldl_cons]; rw [ih]; simp
          rw [← Array.foldl_toList]; exact gen _ _
        refine CellsRel.of_get? (by simp only [over, List.length_append, List.length_take, List.length_drop, Array.length_toList, hsize]; omega) fun i y w hy hw => ?_
        rw [over_get hfit] at hy
        have hw' : (v.cells.zipIdx.foldl (fun cs (x : Value × Nat) => cs.setIfInBounds (off + x.2) x.1) vs)[i]? = some w := by simpa using hw
        rw [hfold] at hw'
        by_cases hin : off ≤ i ∧ i < off + x.cells.length
        · rw [if_pos hin] at hy
          rw [if_pos (by omega)] at hw'
          obtain ⟨a1, a2⟩ := List.getElem?_eq_some_iff.1 hy
          have := hvr (i - off) a1 (by omega)
          rw [a2] at this
          rw [Array.getElem?_eq_getElem (by omega)] at hw'
          injection hw' with hw'
          rw [← hw']; exact this
        · rw [if_neg hin] at hy
          rw [if_neg (by omega)] at hw'
          obtain ⟨w2, hw2, r⟩ := hc.get? hy
          have : vs[i]? = some w2 := by simpa using hw2
          rw [this] at hw'
          injection hw' with hw'
          rw [← hw']; exact r
      · cases h
  | [], _ :: _, _, _, _, _, _, hl, _ => by simp at hl
  | _ :: _, [], _, _, _, _, _, hl, _ => by simp at hl
end
end Go.Proofs.Ytajgeofhlgoifaa.V
