import Derived.Shelf.SlLaysF0
import Derived.Shelf.SlMaps.Clone
import Derived.Test.YtdncoobpdllpkaaGreatProg
import Derived.Test.YtdncoobpdllpkaaGreatVT
import Derived.Test.YtdncoobpdllpkaaGreatV34
import Derived.Test.YtdncoobpdllpkaaGreatV27
import Derived.Test.YtdncoobpdllpkaaGreatV28
import Derived.Test.YtdncoobpdllpkaaGreatDA
import Derived.Test.YtdncoobpdllpkaaGreatV31
/- Contracts of the library, laid at this program: numbers and comparisons only (a program of the kit wrote these lines). -/
namespace Go.Proofs
open Go.Shelf
def Tryz.sortL_ren : Go.Shelf.Ren := ⟨fun | 6 => 90 | 15 => 100 | 14 => 99 | 28 => 110 | 29 => 111 | 20 => 102 | 21 => 103 | 22 => 104 | 23 => 105 | 24 => 106 | 25 => 107 | 26 => 108 | 27 => 109 | 46 => 112 | 47 => 113 | 48 => 114 | 49 => 115 | 50 => 116 | 57 => 117 | n => n, fun | 22 => 34 | 24 => 49 | 25 => 168 | 3 => 3 | 39 => 145 | 0 => 0 | 53 => 204 | 55 => 206 | 4 => 4 | 46 => 197 | 45 => 196 | 50 => 201 | 5 => 5 | 9 => 9 | 66 => 207 | 70 => 98 | 76 => 212 | 77 => 213 | n => n, fun | n => n⟩
theorem Tryz.sortL : Go.Proofs.SlLaysF0.n6 Tryz.prog Tryz.sortL_ren := {
  mixed := by kernel_rfl
  f6 := ⟨Tryz.f90.name, by decide, Tryz.func90.trans (congrArg some (by kernel_rfl))⟩
  f14 := ⟨Tryz.f99.name, by decide, Tryz.func99.trans (congrArg some (by kernel_rfl))⟩
  f15 := Tryz.func100.trans (congrArg some (by kernel_rfl))
  f20 := ⟨Tryz.f102.name, by decide, Tryz.func102.trans (congrArg some (by kernel_rfl))⟩
  f21 := ⟨Tryz.f103.name, by decide, Tryz.func103.trans (congrArg some (by kernel_rfl))⟩
  f22 := ⟨Tryz.f104.name, by decide, Tryz.func104.trans (congrArg some (by kernel_rfl))⟩
  f23 := ⟨Tryz.f105.name, by decide, Tryz.func105.trans (congrArg some (by kernel_rfl))⟩
  f24 := ⟨Tryz.f106.name, by decide, Tryz.func106.trans (congrArg some (by kernel_rfl))⟩
  f25 := ⟨Tryz.f107.name, by decide, Tryz.func107.trans (congrArg some (by kernel_rfl))⟩
  f26 := ⟨Tryz.f108.name, by decide, Tryz.func108.trans (congrArg some (by kernel_rfl))⟩
  f27 := ⟨Tryz.f109.name, by decide, Tryz.func109.trans (congrArg some (by kernel_rfl))⟩
  f28 := Tryz.func110.trans (congrArg some (by kernel_rfl))
  f29 := Tryz.func111.trans (congrArg some (by kernel_rfl))
  f46 := ⟨Tryz.f112.name, by decide, Tryz.func112.trans (congrArg some (by kernel_rfl))⟩
  f47 := Tryz.func113.trans (congrArg some (by kernel_rfl))
  f48 := Tryz.func114.trans (congrArg some (by kernel_rfl))
  f49 := ⟨Tryz.f115.name, by decide, Tryz.func115.trans (congrArg some (by kernel_rfl))⟩
  f50 := ⟨Tryz.f116.name, by decide, Tryz.func116.trans (congrArg some (by kernel_rfl))⟩
  f57 := ⟨Tryz.f117.name, by decide, Tryz.func117.trans (congrArg some (by kernel_rfl))⟩
  t0 := Tryz.underlying0
  a0 := Tryz.isAgg0
  z0 := Tryz.sizeOf0
  v0 := Tryz.zeroValue0
  t3 := Tryz.underlying3
  a3 := Tryz.isAgg3
  z3 := Tryz.sizeOf3
  v3 := Tryz.zeroValue3
  t4 := Tryz.underlying4
  a4 := Tryz.isAgg4
  z4 := Tryz.sizeOf4
  v4 := Tryz.zeroValue4
  t5 := Tryz.underlying5
  a5 := Tryz.isAgg5
  z5 := Tryz.sizeOf5
  v5 := Tryz.zeroValue5
  t9 := Tryz.underlying9
  a9 := Tryz.isAgg9
  z9 := Tryz.sizeOf9
  v9 := Tryz.zeroValue9
  t22 := Tryz.underlying34
  a22 := Tryz.isAgg34
  z22 := Tryz.sizeOf34
  v22 := Tryz.zeroValue34
  t25 := Tryz.underlying168
  a25 := Tryz.isAgg168
  z25 := Tryz.sizeOf168
  v25 := Tryz.zeroValue168
  t39 := Tryz.underlying145
  a39 := Tryz.isAgg145
  z39 := Tryz.sizeOf145
  v39 := Tryz.zeroValue145
  t45 := Tryz.underlying196
  a45 := Tryz.isAgg196
  z45 := Tryz.sizeOf196
  v45 := Tryz.zeroValue196
  t46 := Tryz.underlying197
  a46 := Tryz.isAgg197
  z46 := Tryz.sizeOf197
  v46 := Tryz.zeroValue197
  t50 := Tryz.underlying201
  a50 := Tryz.isAgg201
  z50 := Tryz.sizeOf201
  v50 := Tryz.zeroValue201
  t53 := Tryz.underlying204
  a53 := Tryz.isAgg204
  z53 := Tryz.sizeOf204
  v53 := Tryz.zeroValue204
  t55 := Tryz.underlying206
  a55 := Tryz.isAgg206
  z55 := Tryz.sizeOf206
  v55 := Tryz.zeroValue206
  t66 := Tryz.underlying207
  a66 := Tryz.isAgg207
  z66 := Tryz.sizeOf207
  v66 := Tryz.zeroValue207
  t70 := Tryz.underlying98
  a70 := Tryz.isAgg98
  z70 := Tryz.sizeOf98
  v70 := Tryz.zeroValue98
  t76 := Tryz.underlying212
  a76 := Tryz.isAgg212
  z76 := Tryz.sizeOf212
  v76 := Tryz.zeroValue212
  t77 := Tryz.underlying213
  a77 := Tryz.isAgg213
  z77 := Tryz.sizeOf213
  v77 := Tryz.zeroValue213 }
def Tryz.cloneL_ren : Go.Shelf.Ren := ⟨fun | 5 => 37 | 7 => 59 | n => n, fun | 23 => 35 | 25 => 49 | 3 => 62 | 4 => 4 | 20 => 20 | n => n, fun | n => n⟩
theorem Tryz.cloneL : Go.Proofs.SlLaysW.n5 Tryz.prog Tryz.cloneL_ren := {
  mixed := by kernel_rfl
  f5 := ⟨Tryz.f37.name, by decide, Tryz.func37.trans (congrArg some (by kernel_rfl))⟩
  f7 := Tryz.func59.trans (congrArg some (by kernel_rfl))
  t4 := Tryz.underlying4
  a4 := Tryz.isAgg4
  z4 := Tryz.sizeOf4
  v4 := Tryz.zeroValue4
  t20 := Tryz.underlying20
  a20 := Tryz.isAgg20
  z20 := Tryz.sizeOf20
  v20 := Tryz.zeroValue20
  t23 := Tryz.underlying35
  a23 := Tryz.isAgg35
  z23 := Tryz.sizeOf35
  v23 := Tryz.zeroValue35 }
end Go.Proofs

/- Sets of instances: what they are; their order. -/
set_option linter.unusedVariables false
set_option linter.unusedSimpArgs false
set_option maxRecDepth 20000
namespace Go.Proofs.YtdncoobpdllpkaaGreat.I
open Go Go.Proofs.YtdncoobpdllpkaaGreat.V
open Go.Proofs.YtdncoobpdllpkaaGreat.D
abbrev iv (n : Int) : AV := .int .i64 n
def _root_.Go.Proofs.YtdncoobpdllpkaaGreat.D.Iid.kv (x : Iid) : Value := .agg #[.int .i64 x.e, .int .i64 x.n, .int .i64 x.o]
theorem iid_rel {g : Ghost} {v : Value} {a : Iid} (h : VRel g (Iid.av a) v) : v = a.kv := by
  obtain ⟨vs, rfl, hc⟩ := h.agg_cells
  obtain ⟨l⟩ := vs
  have hl : l.length = 3 := by have := hc.1; simpa [Iid.c] using this.symm
  match l, hl with
  | [x, y, z], _ =>
    have h0 := hc.2 0 (by simp [Iid.c]) (by simp)
    have h1 := hc.2 1 (by simp [Iid.c]) (by simp)
    have h2 := hc.2 2 (by simp [Iid.c]) (by simp)
    simp only [Iid.c, List.getElem_cons_zero, List.getElem_cons_succ] at h0 h1 h2
    rw [h0.int_eq, h1.int_eq, h2.int_eq]
    rfl
theorem iid_back (g : Ghost) (a : Iid) : VRel g (Iid.av a) a.kv := by
  refine .agg _ _ rfl fun i h1 h2 => ?_
  have : i = 0 ∨ i = 1 ∨ i = 2 := by simp [Iid.c] at h1; omega
  rcases this with rfl | rfl | rfl <;> exact .int _ _
def g00 : Ghost := ⟨0, fun _ => .loose .nilFunc, fun _ _ => none, fun _ => none, 0⟩
theorem iid_eqV (a b : Iid) : eqV Tryz.prog 5 49 (Iid.av a) (Iid.av b) = some (decide (a = b)) := by
  obtain ⟨a1, a2, a3⟩ := a
  obtain ⟨b1, b2, b3⟩ := b
  have e : ∀ x y : Int, (x == y) = decide (x = y) := fun x y => by by_cases h : x = y <;> simp [h]
  simp [eqV, eqFs, Iid.av, Iid.c, partA, e]
theorem iid_eq (a b : Iid) (w : World) : (Op.equal 49 a.kv b.kv).run Tryz.prog w = .ok (decide (a = b)) w := by
  have := eqV_sound (P := Tryz.prog) (g := g00) 9995 5 _ _ _ _ _ _ (iid_eqV a b) (iid_back g00 a) (iid_back g00 b) w
  exact this
theorem iid_ck (e : Bool) (a : Iid) (w : World) : (Instr.checkKey e 10000 49 a.kv).run Tryz.prog w = .ok () w := by
  unfold Instr.checkKey
  simp [run_underlying Tryz.underlying49, Iid.kv]
  have ha : ∀ w : World, (isAgg 3).run Tryz.prog w = .ok false w := fun w => by simp [isAgg, run_underlying Tryz.underlying3]
  have hp : ∀ (cs : Array Value) (k : Nat) (v : Value) (w : World), cs[k]? = some v → (part 3 cs k).run Tryz.prog w = .ok v w := fun cs k v w h => by simp [part, ha, h]
  have hc : ∀ (z : Int) (w : World), (Instr.checkKey e 9999 3 (.int .i64 z)).run Tryz.prog w = .ok () w := fun z w => by unfold Instr.checkKey; simp [run_underlying Tryz.underlying3]
  rw [hp _ 0 (.int .i64 a.e) w rfl]
  simp [hc]
  rw [hp _ 1 (.int .i64 a.n) w rfl]
  simp [hc]
  rw [hp _ 2 (.int .i64 a.o) w rfl]
  simp [hc]
theorem iid_key : KeyFor Tryz.prog 49 Iid.av Iid.kv where
  rel := iid_rel
  eq := iid_eq
  now := ⟨_, Tryz.underlying49, fun a b => rfl⟩
  ck := iid_ck
  same := fun a => by simp [Instr.sameBits, Iid.kv]
end Go.Proofs.YtdncoobpdllpkaaGreat.I

/- Sets of instances: which of two comes first. -/
set_option linter.unusedVariables false
set_option linter.unusedSimpArgs false
set_option maxRecDepth 20000
namespace Go.Proofs.YtdncoobpdllpkaaGreat.I
open Go Go.Proofs.YtdncoobpdllpkaaGreat.V
open Go.Proofs.YtdncoobpdllpkaaGreat.D
def cmpI (x y : Int) : Int := if x < y then -1 else if y < x then 1 else 0
theorem nan_ok (x : Int) (h : AHeap) : ACalls Tryz.prog 101 [iv x] h fun r h' => r = .bool false ∧ h' = h := by
  refine acalls_of_awp Tryz.func101 rfl (by simp only [List.length_cons, List.length_nil]; decide) ?_
  simp only [params_cons, params_nil]
  repeat (first | ((first | refine zd ?_ | refine zx ?_ | refine zk ?_ | refine zl ?_ | refine zr ?_); refine zq ?_) | refine zs ?_ | refine zg ?_ | refine zb ?_ | refine zo ?_ | refine zt ?_ | refine zf ?_)
  first | refine zY (.inr rfl) ?_ | refine zY (.inl rfl) ?_
  simp
theorem cmp_ok (x y : Int) (h : AHeap) : ACalls Tryz.prog 93 [iv x, iv y] h fun r h' => r = iv (cmpI x y) ∧ h' = h := by
  refine acalls_of_awp Tryz.func93 rfl (by simp only [List.length_cons, List.length_nil]; decide) ?_
  simp only [params_cons, params_nil]
  repeat (first | ((first | refine zd ?_ | refine zx ?_ | refine zk ?_ | refine zl ?_ | refine zr ?_); refine zq ?_) | refine zs ?_ | refine zg ?_ | refine zb ?_ | refine zo ?_ | refine zt ?_ | refine zf ?_)
  refine zp (callable_of Tryz.func101) _ (nan_ok x _) ?_
  rintro _ h1 ⟨rfl, rfl⟩
  refine ze ?_
  repeat (first | ((first | refine zd ?_ | refine zx ?_ | refine zk ?_ | refine zl ?_ | refine zr ?_); refine zq ?_) | refine zs ?_ | refine zg ?_ | refine zb ?_ | refine zo ?_ | refine zt ?_ | refine zf ?_)
  refine zp (callable_of Tryz.func101) _ (nan_ok y _) ?_
  rintro _ h1 ⟨rfl, rfl⟩
  refine ze ?_
  unfold cmpI
  by_cases h1 : x < y
  · repeat (first | ((first | refine zd ?_ | refine zx ?_ | refine zk ?_ | refine zl ?_ | refine zr ?_); refine zq ?_) | refine zs ?_ | refine zh (by simp -implicitDefEqProofs (disch := (first | omega | (simp; done) | fail)) [if_pos, if_neg, wrap_i64, tmod_pos, tdiv_pos, Int.toNat_add, h1]; rfl) ?_ | refine zb ?_ | refine zo ?_ | refine zt ?_ | refine zf ?_)
    first | refine zY (.inr rfl) ?_ | refine zY (.inl rfl) ?_
    simp [h1]
  · by_cases h2 : y < x
    · repeat (first | ((first | refine zd ?_ | refine zx ?_ | refine zk ?_ | refine zl ?_ | refine zr ?_); refine zq ?_) | refine zs ?_ | refine zh (by simp -implicitDefEqProofs (disch := (first | omega | (simp; done) | fail)) [if_pos, if_neg, wrap_i64, tmod_pos, tdiv_pos, Int.toNat_add, h1, h2]; rfl) ?_ | refine zb ?_ | refine zo ?_ | refine zt ?_ | refine zf ?_)
      first | refine zY (.inr rfl) ?_ | refine zY (.inl rfl) ?_
      simp [h1, h2]
    · repeat (first | ((first | refine zd ?_ | refine zx ?_ | refine zk ?_ | refine zl ?_ | refine zr ?_); refine zq ?_) | refine zs ?_ | refine zh (by simp -implicitDefEqProofs (disch := (first | omega | (simp; done) | fail)) [if_pos, if_neg, wrap_i64, tmod_pos, tdiv_pos, Int.toNat_add, h1, h2]; rfl) ?_ | refine zb ?_ | refine zo ?_ | refine zt ?_ | refine zf ?_)
      first | refine zY (.inr rfl) ?_ | refine zY (.inl rfl) ?_
      simp [h1, h2]
def orI : List Int → Int
  | [] => 0
  | x :: l => if x = 0 then orI l else x
theorem orI_cons (x : Int) (l : List Int) : orI (x :: l) = if x = 0 then orI l else x := rfl
theorem or_ok (l : List Int) (t : Tok) (hl : l.length ≤ 1000) (h : AHeap) : ACalls Tryz.prog 92 [.list (l.map iv) t] h fun r h' => r = iv (orI l) ∧ h' = h := by
  refine acalls_of_awp Tryz.func92 rfl (by simp only [List.length_cons, List.length_nil]; decide) ?_
  simp only [params_cons, params_nil]
  repeat (first | ((first | refine zd ?_ | refine zx ?_ | refine zk ?_ | refine zl ?_ | refine zr ?_); refine zq ?_) | refine zs ?_ | refine zg ?_ | refine zb ?_ | refine zo ?_ | refine zt ?_ | refine zf ?_)
  refine awp_loop (fun n st => ∃ j : Nat, n = l.length - j ∧ j ≤ l.length ∧ orI (l.drop j) = orI l ∧ st.le ⟨Tryz.f92.ntmps, [(0, .list (l.map iv) t), (2, iv 0), (3, iv 0), (6, .list (l.map iv) t), (7, iv (l.length : Nat)), (8, iv (j : Nat))], h⟩) l.length ?_ ?_
  rotate_left
  rintro n st ⟨j, rfl, hj, hg, hle⟩
  · refine awp_le hle ?_
    clear hle
    by_cases h9 : j = l.length
    · subst h9
      have q : ¬ (l.length : Int) < (l.length : Int) := by omega
      rw [List.drop_length] at hg
      repeat (first | ((first | refine zd ?_ | refine zx ?_ | refine zk ?_ | refine zl ?_ | refine zr ?_); refine zq ?_) | refine zs ?_ | refine zh (by simp -implicitDefEqProofs (disch := (first | omega | (simp; done) | fail)) [if_pos, if_neg, wrap_i64, tmod_pos, tdiv_pos, Int.toNat_add, q]; rfl) ?_ | refine zb ?_ | refine zo ?_ | refine zt ?_ | refine zf ?_)
      first | refine zY (.inr rfl) ?_ | refine zY (.inl rfl) ?_
      simp [← hg, orI]
    have hlt : j < l.length := by omega
    have q : (j : Int) < (l.length : Int) := by omega
    have hx2 : (l.map iv)[j]? = some (iv l[j]) := by simp [hlt]
    rw [List.drop_eq_getElem_cons hlt] at hg
    rw [orI_cons] at hg
    generalize l[j] = x at *
    clear hlt
    by_cases hx : x = 0
    · subst hx
      rw [if_pos rfl] at hg
      repeat (first | ((first | refine zd ?_ | refine zx ?_ | refine zk ?_ | refine zl ?_ | refine zr ?_); refine zq ?_) | refine zs ?_ | refine zh (by simp -implicitDefEqProofs (disch := (first | omega | (simp; done) | fail)) [if_pos, if_neg, wrap_i64, tmod_pos, tdiv_pos, Int.toNat_add, q, hx2]; rfl) ?_ | refine zb ?_ | refine zo ?_ | refine zt ?_ | refine zf ?_)
      exact ⟨l.length - (j + 1), by omega, j + 1, rfl, by omega, hg, st_keep' (by simp []) (by simp [])⟩
    · rw [if_neg hx] at hg
      have hx3 : (x != 0) = true := by simpa using hx
      repeat (first | ((first | refine zd ?_ | refine zx ?_ | refine zk ?_ | refine zl ?_ | refine zr ?_); refine zq ?_) | refine zs ?_ | refine zh (by simp -implicitDefEqProofs (disch := (first | omega | (simp; done) | fail)) [if_pos, if_neg, wrap_i64, tmod_pos, tdiv_pos, Int.toNat_add, q, hx2, hx3]; rfl) ?_ | refine zb ?_ | refine zo ?_ | refine zt ?_ | refine zf ?_)
      first | refine zY (.inr rfl) ?_ | refine zY (.inl rfl) ?_
      simp [← hg]
  · exact ⟨0, rfl, by omega, rfl, st_keep' (by simp []) (by simp [])⟩
def ordI (a b : Iid) : Int := orI [cmpI a.e b.e, cmpI a.o b.o, cmpI a.n b.n]
theorem order_ok (a b : Iid) (h : AHeap) : ACalls Tryz.prog 81 [Iid.av a, Iid.av b] h fun r h' => r = iv (ordI a b) ∧ h' = h := by
  unfold Iid.av Iid.c
  refine acalls_of_awp Tryz.func81 rfl (by simp only [List.length_cons, List.length_nil]; decide) ?_
  simp only [params_cons, params_nil]
  refine awp_seq ?_
  refine zg ?_
  refine goes_done ?_
  (try simp only [vq, if_true, reduceIte, Nat.reduceEqDiff, reduceCtorEq])
  refine awp_hard (id := h.length) (by simp -implicitDefEqProofs; rfl) ?_
  simp -implicitDefEqProofs only [Slots.melt, AV.melt, Nat.add_left_cancel_iff, Nat.add_eq_left, Nat.left_eq_add, Nat.reduceEqDiff, reduceIte, Nat.succ_ne_self, Nat.one_ne_zero, Nat.zero_ne_one, List.set_append_right, List.set_append_left, Nat.sub_self, Nat.le_refl, Nat.add_sub_cancel_left, Nat.le_add_right, List.set_cons_zero, List.set_cons_succ]
  refine awp_hard (id := h.length + 1) (by simp -implicitDefEqProofs; rfl) ?_
  simp -implicitDefEqProofs only [Slots.melt, AV.melt, Nat.add_left_cancel_iff, Nat.add_eq_left, Nat.left_eq_add, Nat.reduceEqDiff, reduceIte, Nat.succ_ne_self, Nat.one_ne_zero, Nat.zero_ne_one, List.set_append_right, List.set_append_left, Nat.sub_self, Nat.le_refl, Nat.add_sub_cancel_left, Nat.le_add_right, List.set_cons_zero, List.set_cons_succ]
  repeat (first | ((first | refine zd ?_ | refine zx ?_ | refine zk ?_ | refine zl ?_ | refine zr ?_); refine zq ?_) | refine zs ?_ | refine zg ?_ | refine zb ?_ | refine zo ?_ | refine zt ?_ | refine zf ?_)
  refine awp_draw (.q 0 (.q 1 (.q 2 (.q 3 (.q 5 (.q 6 (.q 7 (.q 8 (.q 10 (.q 11 (.q 12 (.q 13 (.a 4 (.a 9 (.a 14 (.a 15 (.a 16 (.q 17 (.done))))))))))))))))))) (by kernel_rfl) (by kernel_rfl) (tree_start (goesT_eq (by simp -implicitDefEqProofs (disch := (first | omega | (simp; done) | fail)) [if_pos, if_neg, wrap_i64, tmod_pos, tdiv_pos, Int.toNat_add]; rfl) ?_))
  refine zP (callable_of Tryz.func93) _ (cmp_ok a.e b.e _) ?_
  rintro _ h1 ⟨rfl, rfl⟩
  refine zE ?_
  refine zP (callable_of Tryz.func93) _ (cmp_ok a.o b.o _) ?_
  rintro _ h1 ⟨rfl, rfl⟩
  refine zE ?_
  refine zP (callable_of Tryz.func93) _ (cmp_ok a.n b.n _) ?_
  rintro _ h1 ⟨rfl, rfl⟩
  refine zE ?_
  refine zP (callable_of Tryz.func92) _ (or_ok [cmpI a.e b.e, cmpI a.o b.o, cmpI a.n b.n] .no (by simp) _) ?_
  rintro _ h1 ⟨rfl, rfl⟩
  refine zE ?_
  refine goesT_done ?_
  (try simp only [vq, if_true, reduceIte, Nat.reduceEqDiff, reduceCtorEq])
  repeat (first | ((first | refine zd ?_ | refine zx ?_ | refine zk ?_ | refine zl ?_ | refine zr ?_); refine zq ?_) | refine zs ?_ | refine zg ?_ | refine zb ?_ | refine zo ?_ | refine zt ?_ | refine zf ?_)
  first | refine zy (.inr rfl) ?_ | refine zy (.inl rfl) ?_
  simp [ordI]
def lessB (a b : Iid) : Bool := decide (a.e < b.e ∨ a.e = b.e ∧ (a.o < b.o ∨ a.o = b.o ∧ a.n < b.n))
theorem ord_less (a b : Iid) : decide (ordI a b < 0) = lessB a b := by
  unfold ordI lessB orI orI orI orI cmpI
  apply Bool.eq_iff_iff.2
  simp only [decide_eq_true_eq]
  by_cases h1 : a.e < b.e
  · simp [h1]
  by_cases h2 : b.e < a.e
  · have : ¬ a.e = b.e := by omega
    simp [h1, h2, this]
  have h3 : a.e = b.e := by omega
  by_cases h4 : a.o < b.o
  · simp [h3, h4]
  by_cases h5 : b.o < a.o
  · have : ¬ a.o = b.o := by omega
    simp [h3, h4, h5, this]
  have h6 : a.o = b.o := by omega
  by_cases h7 : a.n < b.n
  · simp [h3, h6, h7]
  by_cases h8 : b.n < a.n
  · simp [h3, h6, h7, h8]
  · simp [h3, h6, h7, h8]
end Go.Proofs.YtdncoobpdllpkaaGreat.I

/- Sets of instances: lists as a set. -/
set_option linter.unusedVariables false
set_option linter.unusedSimpArgs false
set_option maxRecDepth 20000
namespace Go.Proofs.YtdncoobpdllpkaaGreat.I
open Go Go.Proofs.YtdncoobpdllpkaaGreat.V
open Go.Proofs.YtdncoobpdllpkaaGreat.D
abbrev MS := Ents Iid × Nat
def putL (p : MS) (ks : List Iid) : MS := ks.foldl (fun p k => (putE k (.bool true) p.2 p.1, putC k p.2 p.1)) p
def MS.o (p : MS) : AObj := mapO Iid.av p.1 p.2
def lv (l : List Iid) : AV := .list (l.map Iid.av) .no
theorem putL_snoc (p : MS) (ks : List Iid) (k : Iid) : putL p (ks ++ [k]) = (putE k (.bool true) (putL p ks).2 (putL p ks).1, putC k (putL p ks).2 (putL p ks).1) := by simp [putL]
theorem of_ok (ls : List (List Iid)) (t : Tok) (hn : ls.length ≤ 1000) (hl : ∀ l ∈ ls, l.length ≤ 100000) (h : AHeap) : ACalls Tryz.prog 60 [.list (ls.map lv) t] h fun r h' => r = .map h.length ∧ ∃ X, h' = h ++ (putL ([], 0) ls.flatten).o :: X := by
  have hu1 : uni 1 (ls.map lv) = true := uni_map fun _ => rfl
  refine acalls_of_awp Tryz.func60 rfl (by simp only [List.length_cons, List.length_nil]; decide) ?_
  simp only [params_cons, params_nil]
  refine awp_seq ?_
  refine zg ?_
  refine goes_done ?_
  (try simp only [vq, if_true, reduceIte, Nat.reduceEqDiff, reduceCtorEq])
  refine awp_seq ?_
  refine awp_region_at 0 rfl rfl ?_
  refine zn ?_
  refine goes_done ?_
  refine aops_makeMap rfl rfl ?_
  refine aops_end ?_
  refine zn ?_
  refine goes_done ?_
  simp only [vq, if_true, reduceIte, Nat.reduceEqDiff, reduceCtorEq]
  repeat (first | ((first | refine zd ?_ | refine zx ?_ | refine zk ?_ | refine zl ?_ | refine zr ?_); refine zq ?_) | refine zs ?_ | refine zg ?_ | refine zb ?_ | refine zo ?_ | refine zt ?_ | refine zf ?_)
  refine awp_loop (fun z st => ∃ (i : Nat) (X : AHeap), z = ls.length - i ∧ i ≤ ls.length ∧ st.le ⟨Tryz.f60.ntmps, [(3, .map h.length), (9, .list (ls.map lv) t), (10, iv (ls.length : Nat)), (11, iv (i : Nat))], h ++ (putL ([], 0) (ls.take i).flatten).o :: X⟩) ls.length ?_ ?_
  rotate_left
  rintro z st ⟨i, X, rfl, hi, hle⟩
  · refine awp_le hle ?_
    clear hle
    by_cases h9 : i = ls.length
    · subst h9
      have q : ¬ (ls.length : Int) < (ls.length : Int) := by omega
      rw [List.take_length]
      repeat (first | ((first | refine zd ?_ | refine zx ?_ | refine zk ?_ | refine zl ?_ | refine zr ?_); refine zq ?_) | refine zs ?_ | refine zh (by simp -implicitDefEqProofs (disch := (first | omega | (simp; done) | fail)) [if_pos, if_neg, wrap_i64, tmod_pos, tdiv_pos, Int.toNat_add, q]; rfl) ?_ | refine zb ?_ | refine zo ?_ | refine zt ?_ | refine zf ?_)
      first | refine body_all (.inr rfl) (by simp -implicitDefEqProofs; rfl) (by simp -implicitDefEqProofs; rfl) (by first | (simp; done) | (simp; omega) | omega) ?_ | refine body_all (.inl rfl) (by simp -implicitDefEqProofs; rfl) (by simp -implicitDefEqProofs; rfl) (by first | (simp; done) | (simp; omega) | omega) ?_
      exact ⟨rfl, X, rfl⟩
    have hlt : i < ls.length := by omega
    have q : (i : Int) < (ls.length : Int) := by omega
    have hx2 : (ls.map lv)[i]? = some (.list (ls[i].map Iid.av) .no) := by simp [hlt, lv]
    have hll := hl ls[i] (List.getElem_mem hlt)
    have htk : ls.take (i + 1) = ls.take i ++ [ls[i]] := List.take_succ_eq_append_getElem hlt
    generalize ls[i] = l at *
    clear hlt
    obtain ⟨p, hp⟩ : ∃ p, p = putL ([], 0) (ls.take i).flatten := ⟨_, rfl⟩
    rw [← hp]
    repeat (first | ((first | refine zd ?_ | refine zx ?_ | refine zk ?_ | refine zl ?_ | refine zr ?_); refine zq ?_) | refine zs ?_ | refine zh (by simp -implicitDefEqProofs (disch := (first | omega | (simp; done) | fail)) [if_pos, if_neg, wrap_i64, tmod_pos, tdiv_pos, Int.toNat_add, q, hx2, hu1]; rfl) ?_ | refine zb ?_ | refine zo ?_ | refine zt ?_ | refine zf ?_)
    refine awp_loop (fun z st => ∃ (j : Nat) (X : AHeap), z = l.length - j ∧ j ≤ l.length ∧ st.le ⟨Tryz.f60.ntmps, [(3, .map h.length), (9, .list (ls.map lv) t), (10, iv (ls.length : Nat)), (11, iv (i : Nat)), (15, .list (l.map Iid.av) .no), (16, iv (l.length : Nat)), (17, iv (j : Nat))], h ++ (putL p (l.take j)).o :: X⟩) l.length ?_ ?_
    rotate_left
    rintro z st ⟨j, X', rfl, hj, hle⟩
    · refine awp_le hle ?_
      clear hle
      by_cases h10 : j = l.length
      · subst h10
        have q5 : ¬ (l.length : Int) < (l.length : Int) := by omega
        rw [List.take_length]
        repeat (first | ((first | refine zd ?_ | refine zx ?_ | refine zk ?_ | refine zl ?_ | refine zr ?_); refine zq ?_) | refine zs ?_ | refine zh (by simp -implicitDefEqProofs (disch := (first | omega | (simp; done) | fail)) [if_pos, if_neg, wrap_i64, tmod_pos, tdiv_pos, Int.toNat_add, q5]; rfl) ?_ | refine zb ?_ | refine zo ?_ | refine zt ?_ | refine zf ?_)
        refine ⟨ls.length - (i + 1), by omega, i + 1, X', rfl, by omega, ?_⟩
        have e : putL p l = putL ([], 0) (ls.take (i + 1)).flatten := by rw [htk, hp]; simp [putL]
        rw [← e]
        exact st_keep' (by simp []) (by simp [])
      have hlt : j < l.length := by omega
      have q5 : (j : Int) < (l.length : Int) := by omega
      have hx3 : (l.map Iid.av)[j]? = some (Iid.av l[j]) := by simp [hlt]
      have htk2 : l.take (j + 1) = l.take j ++ [l[j]] := List.take_succ_eq_append_getElem hlt
      generalize l[j] = k at *
      clear hlt
      have hs := putL_snoc p (l.take j) k
      rw [← htk2] at hs
      generalize putL p (l.take j) = pj at *
      have hu2 : uni 3 (l.map Iid.av) = true := uni_map fun _ => rfl
      refine awp_seq ?_
      refine zh (by simp -implicitDefEqProofs (disch := (first | omega | (simp; done) | fail)) [if_pos, if_neg, wrap_i64, tmod_pos, tdiv_pos, Int.toNat_add, q5]; rfl) ?_
      refine goes_done ?_
      (try simp only [vq, if_true, reduceIte, Nat.reduceEqDiff, reduceCtorEq])
      refine awp_seq ?_
      refine awp_cond_t rfl ?_
      refine awp_skip ?_
      simp only [vq, if_true, reduceIte, Nat.reduceEqDiff, reduceCtorEq]
      refine awp_seq ?_
      refine awp_block ?_
      refine awp_seq ?_
      refine zh (by simp -implicitDefEqProofs (disch := (first | omega | (simp; done) | fail)) [if_pos, if_neg, wrap_i64, tmod_pos, tdiv_pos, Int.toNat_add, hx3, hu2, Iid.av, Iid.c]; rfl) ?_
      refine goes_done ?_
      (try simp only [vq, if_true, reduceIte, Nat.reduceEqDiff, reduceCtorEq])
      refine awp_region_at 2 rfl rfl ?_
      refine zn ?_
      refine goes_done ?_
      refine aops_put (id := h.length) (es := pj.1) (clock := pj.2) (k := k) (v := .bool true) iid_key rfl rfl rfl Tryz.underlying138 rfl rfl rfl (by simp [MS.o]) ?_
      refine aops_end ?_
      refine zn ?_
      refine goes_done ?_
      simp only [vq, if_true, reduceIte, Nat.reduceEqDiff, reduceCtorEq]
      repeat (first | ((first | refine zd ?_ | refine zx ?_ | refine zk ?_ | refine zl ?_ | refine zr ?_); refine zq ?_) | refine zs ?_ | refine zg ?_ | refine zb ?_ | refine zo ?_ | refine zt ?_ | refine zf ?_)
      refine ⟨l.length - (j + 1), by omega, j + 1, X' ++ [.cells [iv k.e, iv k.n, iv k.o]], rfl, by omega, ?_⟩
      rw [hs]
      exact st_keep' (by simp [MS.o]) (by simp [MS.o])
    · exact ⟨0, X, rfl, by omega, by rw [List.take_zero]; exact st_keep' (by simp [lv, putL]) (by simp [lv, putL])⟩
  · exact ⟨0, [], rfl, by omega, st_keep' (by simp [putL, MS.o, mapO]) (by simp [putL, MS.o, mapO])⟩
end Go.Proofs.YtdncoobpdllpkaaGreat.I

/- Sets of instances: a set's members, one by one. -/
set_option linter.unusedVariables false
set_option linter.unusedSimpArgs false
set_option maxRecDepth 20000
namespace Go.Proofs.YtdncoobpdllpkaaGreat.I
open Go Go.Proofs.YtdncoobpdllpkaaGreat.V
open Go.Proofs.YtdncoobpdllpkaaGreat.D
theorem keys_ok (id : Nat) (h : AHeap) : ACalls Tryz.prog 80 [.map id] h fun r h' => r = .func (.func 91) [] [.ptr h.length 0] ∧ h' = h ++ [.cells [.map id]] := by
  refine acalls_of_awp Tryz.func80 rfl (by simp only [List.length_cons, List.length_nil]; decide) ?_
  simp only [params_cons, params_nil]
  repeat (first | ((first | refine zd ?_ | refine zx ?_ | refine zk ?_ | refine zl ?_ | refine zr ?_); refine zq ?_) | refine zs ?_ | refine zg ?_ | refine zb ?_ | refine zo ?_ | refine zt ?_ | refine zf ?_)
  first | refine body_all (.inr rfl) (by simp -implicitDefEqProofs; rfl) (by simp -implicitDefEqProofs; rfl) (by first | (simp; done) | (simp; omega) | omega) ?_ | refine body_all (.inl rfl) (by simp -implicitDefEqProofs; rfl) (by simp -implicitDefEqProofs; rfl) (by first | (simp; done) | (simp; omega) | omega) ?_
  simp
structure WF (p : MS) : Prop where
  st : (p.1.map (·.2.2)).Nodup
  lt : ∀ e ∈ p.1, e.2.2 < p.2
  ky : (p.1.map (·.1)).Nodup
/-- What was collected. -/
def Col (X : AHeap) (b : Nat) (sv : AV) (ks : List Iid) : Prop :=
  (ks = [] ∧ sv = .list [] .full) ∨ ∃ aj c cs, sv = .arr (b + (aj + 2)) 0 ks.length c ∧ X[aj]? = some (.cells cs) ∧ cs.length = c * 3 ∧ ks.length ≤ c ∧ 0 < c ∧ cs.take (ks.length * 3) = ks.flatMap Iid.c
theorem flt_le {β : Type} {f g : β → Bool} (hfg : ∀ x, f x = true → g x = true) : ∀ l : List β, (l.filter f).length ≤ (l.filter g).length
  | [] => by simp
  | a :: l => by
    have := flt_le hfg l
    simp only [List.filter_cons]
    cases hf : f a with
    | true => simp [hfg a hf]; omega
    | false => cases g a <;> simp <;> omega
theorem flt_lt {β : Type} {f g : β → Bool} (hfg : ∀ x, f x = true → g x = true) {p : β} (hg : g p = true) (hf : f p = false) : ∀ {l : List β}, p ∈ l → (l.filter f).length < (l.filter g).length
  | [], h => by cases h
  | a :: l, h => by
    simp only [List.filter_cons]
    rcases List.mem_cons.1 h with rfl | h
    · have := flt_le hfg l
      rw [hf, hg]
      simp
      omega
    · have := flt_lt hfg hg hf h
      cases hfa : f a with
      | true => simp [hfg a hfa]; omega
      | false => cases g a <;> simp <;> omega
theorem col_all {p : MS} (hw : WF p) {ps : Ents Iid} (hps : ∀ q ∈ ps, q ∈ p.1) (hnd : (ps.map (·.2.2)).Nodup) (hall : ∀ e ∈ p.1, e.2.2 ∈ ps.map (·.2.2)) : (ps.map (·.1)).Nodup ∧ ∀ k, k ∈ ps.map (·.1) ↔ k ∈ p.1.map (·.1) := by
  have inj : ∀ {β : Type} (f : Iid × AV × Nat → β), (p.1.map f).Nodup → ∀ a ∈ p.1, ∀ b ∈ p.1, f a = f b → a = b := fun {β} f hn a ha b hb e => by
    have hp : List.Pairwise (fun a b => f a ≠ f b) p.1 := List.pairwise_map.1 hn
    refine Classical.byContradiction fun hne => ?_
    obtain ⟨i, hi, rfl⟩ := List.getElem_of_mem ha
    obtain ⟨j, hj, rfl⟩ := List.getElem_of_mem hb
    rcases Nat.lt_trichotomy i j with h | h | h
    · exact (List.pairwise_iff_getElem.1 hp i j hi hj h) e
    · subst h; exact hne rfl
    · exact (List.pairwise_iff_getElem.1 hp j i hj hi h) e.symm
  constructor
  · have h1 : List.Pairwise (fun a b => a.2.2 ≠ b.2.2) ps := List.pairwise_map.1 hnd
    refine List.pairwise_map.2 ?_
    refine h1.imp_of_mem fun {a b} ha hb hne e => hne ?_
    rw [inj (·.1) hw.ky a (hps a ha) b (hps b hb) e]
  · intro k
    constructor
    · intro h
      obtain ⟨q, hq, rfl⟩ := List.mem_map.1 h
      exact List.mem_map.2 ⟨q, hps q hq, rfl⟩
    · intro h
      obtain ⟨e, he, rfl⟩ := List.mem_map.1 h
      obtain ⟨q, hq, e2⟩ := List.mem_map.1 (hall e he)
      have := inj (·.2.2) hw.st q (hps q hq) e he e2
      subst this
      exact List.mem_map.2 ⟨q, hq, rfl⟩
theorem over_len {cs vs : List AV} {off : Nat} (h : off + vs.length ≤ cs.length) : (V.over cs off vs).length = cs.length := by
  simp [V.over]; omega
theorem col_mk {X : AHeap} {b : Nat} {ks : List Iid} {q : Iid} {a c : Nat} {cs : List AV} (hx : X[a]? = some (.cells cs)) (h1 : cs.length = c * 3) (h2 : ks.length + 1 ≤ c) (h3 : cs.take ((ks.length + 1) * 3) = ks.flatMap Iid.c ++ q.c) :
    Col X b (.arr (b + (a + 2)) 0 (ks.length + 1) c) (ks ++ [q]) := .inr ⟨a, c, cs, by simp, hx, h1, by simpa using h2, by omega, by simpa using h3⟩
theorem appseq_ok (p : MS) (hw : WF p) (id mb : Nat) (hl : p.1.length ≤ 100000) (h : AHeap) (hm : h[mb]? = some (.cells [.map id])) (ho : h[id]? = some p.o) :
    ACalls Tryz.prog 98 [.list [] .full, .func (.func 91) [] [.ptr mb 0]] h fun r h' => ∃ ks sv o X, r = sv.strip ∧ h' = h ++ (.cells [sv] :: o :: X) ∧ Col X h.length sv ks ∧ ks.Nodup ∧ ∀ k, k ∈ ks ↔ k ∈ p.1.map (·.1) := by
  have hml : ∀ y, (h ++ y)[mb]? = some (.cells [.map id]) := fun y => by rw [List.getElem?_append_left (List.getElem?_eq_some_iff.1 hm).1]; exact hm
  have hol : ∀ y, (h ++ y)[id]? = some p.o := fun y => by rw [List.getElem?_append_left (List.getElem?_eq_some_iff.1 ho).1]; exact ho
  clear hm ho
  refine acalls_of_awp Tryz.func98 rfl (by simp only [List.length_cons, List.length_nil]; decide) ?_
  simp only [params_cons, params_nil]
  repeat (first | ((first | refine zd ?_ | refine zx ?_ | refine zk ?_ | refine zl ?_ | refine zr ?_); refine zq ?_) | refine zs ?_ | refine zg ?_ | refine zb ?_ | refine zo ?_ | refine zt ?_ | refine zf ?_)
  refine awp_rangeFunc rfl (by simp -implicitDefEqProofs; rfl) (callable_of Tryz.func91) (fun lp => acallsE_of_awp rfl Tryz.func91 rfl (by simp only [List.length_cons, List.length_nil]; decide) ?_)
  simp only [params_cons, params_nil]
  have hol2 : ∀ y, (h ++ y)[id]? = some (.map (p.1.map fun q => (Iid.av q.1, q.2.1, q.2.2)) p.2) := hol
  refine awp_seq ?_
  refine awp_region_at 1 rfl rfl ?_
  refine run_start (goes_eq (by simp -implicitDefEqProofs (disch := (first | omega | (simp; done) | fail)) [if_pos, if_neg, wrap_i64, tmod_pos, tdiv_pos, Int.toNat_add, hml]; rfl) ?_)
  refine goes_done ?_
  refine aops_range (id := id) (clock := p.2) rfl rfl Tryz.underlying138 rfl (hol2 _) ?_
  refine aops_end ?_
  refine zn ?_
  refine goes_done ?_
  simp only [vq, if_true, reduceIte, Nat.reduceEqDiff, reduceCtorEq]
  refine awp_block ?_
  refine awp_loop (fun z st => ∃ (ps : Ents Iid) (sv : AV) (X : AHeap), z = (p.1.filter fun q => !(ps.map (·.2.2)).contains q.2.2).length ∧ ps.length + z ≤ p.1.length ∧ (∀ q ∈ ps, q ∈ p.1) ∧ (ps.map (·.2.2)).Nodup ∧ Col X h.length sv (ps.map (·.1)) ∧ st.le ⟨Tryz.f91.ntmps, [(0, .func (.yield lp) [] []), (5, .ptr (h.length + 1) 0)], h ++ (.cells [sv] :: .iter id p.2 p.2 (ps.map (·.2.2)) :: X)⟩) (p.1.filter fun q => !(([] : Ents Iid).map (·.2.2)).contains q.2.2).length ?_ ?_
  rotate_left
  rintro z st ⟨ps, sv, X, rfl, hsz, hps, hnd, hcol, hle⟩
  · refine awp_le hle ?_
    clear hle
    refine awp_seq ?_
    refine awp_region_at 0 rfl rfl ?_
    refine zn ?_
    refine goes_done ?_
    refine aops_next (id := id) (rid := h.length + 1) (clock := p.2) (since := p.2) (last := p.2) (seen := ps.map (·.2.2)) (es := p.1.map fun q => (Iid.av q.1, q.2.1, q.2.2)) rfl rfl rfl (by simp) (hol2 _) (fun q hq => ?_) (Nat.le_refl _) (fun hall => ?_) (fun p0 hp0 hns => ?_)
    · obtain ⟨e, he, rfl⟩ := List.mem_map.1 hq
      exact hw.lt e he
    · refine aops_end ?_
      refine zn ?_
      refine goes_done ?_
      simp only [vq, if_true, reduceIte, Nat.reduceEqDiff, reduceCtorEq]
      repeat (first | ((first | refine zd ?_ | refine zx ?_ | refine zk ?_ | refine zl ?_ | refine zr ?_); refine zq ?_) | refine zs ?_ | refine zg ?_ | refine zb ?_ | refine zo ?_ | refine zt ?_ | refine zf ?_)
      first | refine body_all (.inr rfl) (by simp -implicitDefEqProofs; rfl) (by simp -implicitDefEqProofs; rfl) (by first | (simp; done) | (simp; omega) | omega) ?_ | refine body_all (.inl rfl) (by simp -implicitDefEqProofs; rfl) (by simp -implicitDefEqProofs; rfl) (by first | (simp; done) | (simp; omega) | omega) ?_
      repeat (first | ((first | refine zd ?_ | refine zx ?_ | refine zk ?_ | refine zl ?_ | refine zr ?_); refine zq ?_) | refine zs ?_ | refine zg ?_ | refine zb ?_ | refine zo ?_ | refine zt ?_ | refine zf ?_)
      refine body_all (.inr rfl) (by simp -implicitDefEqProofs; rfl) rfl (by simp) ?_
      refine ⟨ps.map (·.1), sv, _, X, rfl, rfl, hcol, ?_⟩
      exact col_all hw hps hnd fun e he => hall _ (List.mem_map.2 ⟨e, he, rfl⟩)
    · obtain ⟨q, hq, rfl⟩ := List.mem_map.1 hp0
      refine aops_end ?_
      refine zn ?_
      refine goes_done ?_
      simp only [vq, if_true, reduceIte, Nat.reduceEqDiff, reduceCtorEq]
      refine awp_seq ?_
      refine awp_cond_t rfl ?_
      refine awp_skip ?_
      simp only [vq, if_true, reduceIte, Nat.reduceEqDiff, reduceCtorEq]
      refine awp_block ?_
      refine awp_seq ?_
      refine awp_region_at 0 rfl rfl ?_
      refine zn ?_
      refine goes_done ?_
      refine aops_entry (id := id) (rid := h.length + 1) (clock := p.2) (since := p.2) (seen := ps.map (·.2.2)) (es := p.1.map fun q => (Iid.av q.1, q.2.1, q.2.2)) (p := (Iid.av q.1, q.2.1, q.2.2)) rfl rfl rfl (by simp) (hol2 _) hp0 (by rw [List.map_map]; exact hw.st) ?_
      refine aops_end ?_
      simp only [Iid.av, Iid.c]
      refine zn ?_
      refine goes_done ?_
      simp only [vq, if_true, reduceIte, Nat.reduceEqDiff, reduceCtorEq]
      repeat (first | ((first | refine zd ?_ | refine zx ?_ | refine zk ?_ | refine zl ?_ | refine zr ?_); refine zq ?_) | refine zs ?_ | refine zg ?_ | refine zb ?_ | refine zo ?_ | refine zt ?_ | refine zf ?_)
      refine goes_yield ⟨rfl, rfl, ?_⟩
      simp only [putAll_cons, putAll_nil]
      refine zg ?_
      refine goes_done ?_
      (try simp only [vq, if_true, reduceIte, Nat.reduceEqDiff, reduceCtorEq])
      refine awp_block ?_
      have hns2 : q.2.2 ∉ ps.map (·.2.2) := hns
      have hlt := flt_lt (f := fun e : Iid × AV × Nat => !((ps ++ [q]).map (·.2.2)).contains e.2.2) (g := fun e : Iid × AV × Nat => !(ps.map (·.2.2)).contains e.2.2) (p := q) (fun x hx => by simp at hx ⊢; exact fun a b hab => hx.1 a b hab) (by simpa using hns2) (by simp) hq
      have hpl : ps.length ≤ 100000 := by omega
      have hps2 : ∀ e ∈ ps ++ [q], e ∈ p.1 := fun e he => by
        rcases List.mem_append.1 he with h | h
        · exact hps e h
        · simp at h; rw [h]; exact hq
      have hnd2 : ((ps ++ [q]).map (·.2.2)).Nodup := by
        rw [List.map_append, List.nodup_append]
        refine ⟨hnd, by simp, fun a ha b hb => ?_⟩
        simp at hb
        rw [hb]
        exact fun e => hns2 (e ▸ ha)
      have hst : ps.map (·.2.2) ++ [q.2.2] = (ps ++ [q]).map (·.2.2) := by simp
      rcases hcol with ⟨hk0, rfl⟩ | ⟨aj, c, cs, rfl, haj, hcl, hkc, hc0, htk⟩
      · have hp0 : ps = [] := by simpa using hk0
        refine awp_region_at 3 rfl rfl ?_
        refine zn ?_
        refine goes_done ?_
        refine aops_append_k (k := 3) (by_ := 24) (m := 0) (c := 0) (cs := []) (zc := [iv 0, iv 0, iv 0]) (z := .agg [iv q.1.e, iv q.1.n, iv q.1.o]) rfl rfl (by simp; rfl) (by simp) (by simp) (by simp [iv]) rfl (by decide) rfl (by simp) .nil (by simp [iv]) (by omega) (by omega) ?_
        refine ⟨fun hlt => absurd hlt (by omega), fun _ c' u hc' hu => ?_⟩
        refine aops_end ?_
        refine zn ?_
        refine goes_done ?_
        (try simp only [vq, if_true, reduceIte, Nat.reduceEqDiff, reduceCtorEq])
        refine zn ?_
        refine goes_done ?_
        (try simp only [vq, if_true, reduceIte, Nat.reduceEqDiff, reduceCtorEq])
        repeat (first | ((first | refine zd ?_ | refine zx ?_ | refine zk ?_ | refine zl ?_ | refine zr ?_); refine zq ?_) | refine zs ?_ | refine zg ?_ | refine zb ?_ | refine zo ?_ | refine zt ?_ | refine zf ?_)
        refine ⟨_, hlt, ps ++ [q], .arr (h.length + (X.length + 2 + 2)) 0 1 c', X ++ [.cells [iv q.1.e, iv q.1.n, iv q.1.o], .cells [iv q.1.e, iv q.1.n, iv q.1.o], .cells (iv q.1.e :: iv q.1.n :: iv q.1.o :: u)], rfl, by simp only [List.length_append, List.length_singleton]; omega, hps2, hnd2, ?_, ?_⟩
        · subst hp0
          exact col_mk (ks := []) (q := q.1) (a := X.length + 2) (c := c') (cs := iv q.1.e :: iv q.1.n :: iv q.1.o :: u) (by simp) (by simp [hu]; omega) (by simpa using hc') (by simp [Iid.c])
        · rw [← hst]
          exact st_keep' (by simp []) (by simp [])
      · have hnk : (ps.map (·.1)).length = ps.length := by simp
        rw [hnk] at hkc htk ⊢
        have hxl : aj < X.length := (List.getElem?_eq_some_iff.1 haj).1
        have hajr : ∀ y, (X ++ y)[aj]? = some (.cells cs) := fun y => by rw [List.getElem?_append_left hxl]; exact haj
        have hajs : ∀ y v, (X ++ y).set aj v = X.set aj v ++ y := fun y v => List.set_append_left _ _ hxl
        clear hxl
        refine awp_region_at 3 rfl rfl ?_
        refine zn ?_
        refine goes_done ?_
        refine aops_append_k (k := 3) (by_ := 24) (m := ps.length) (c := c) (cs := cs) (zc := [iv 0, iv 0, iv 0]) (z := .agg [iv q.1.e, iv q.1.n, iv q.1.o]) rfl rfl (by simp; rfl) (by simp) (by simp) (by simp [iv]) rfl (by decide) rfl (by simp) (.arr _ _ _ _ (by simp [hajr]) hcl hkc hc0) (by simp [iv]) (by omega) (by omega) ?_
        have hov : ∀ n, n * 3 + 3 ≤ cs.length → (V.over cs (n * 3) [iv q.1.e, iv q.1.n, iv q.1.o]).take ((n + 1) * 3) = cs.take (n * 3) ++ [iv q.1.e, iv q.1.n, iv q.1.o] := fun n hn => by
          unfold V.over
          rw [List.take_append_of_le_length (by simp; omega), List.take_of_length_le (by simp; omega)]
        refine ⟨fun hlt2 id' hx => ?_, fun hmc c' u hc' hu => ?_⟩
        · injection hx with hx
          subst hx
          refine aops_end ?_
          refine run_start (goes_eq (by simp -implicitDefEqProofs (disch := (first | omega | (simp; done) | fail)) [if_pos, if_neg, wrap_i64, tmod_pos, tdiv_pos, Int.toNat_add, hajs]; rfl) ?_)
          refine goes_done ?_
          (try simp only [vq, if_true, reduceIte, Nat.reduceEqDiff, reduceCtorEq])
          refine zn ?_
          refine goes_done ?_
          (try simp only [vq, if_true, reduceIte, Nat.reduceEqDiff, reduceCtorEq])
          repeat (first | ((first | refine zd ?_ | refine zx ?_ | refine zk ?_ | refine zl ?_ | refine zr ?_); refine zq ?_) | refine zs ?_ | refine zg ?_ | refine zb ?_ | refine zo ?_ | refine zt ?_ | refine zf ?_)
          refine ⟨_, hlt, ps ++ [q], .arr (h.length + (aj + 2)) 0 (ps.length + 1) c, X.set aj (.cells (V.over cs (ps.length * 3) [iv q.1.e, iv q.1.n, iv q.1.o])) ++ [.cells [iv q.1.e, iv q.1.n, iv q.1.o], .cells [iv q.1.e, iv q.1.n, iv q.1.o]], rfl, by simp only [List.length_append, List.length_singleton]; omega, hps2, hnd2, ?_, ?_⟩
          · have hxl : aj < X.length := (List.getElem?_eq_some_iff.1 haj).1
            have := col_mk (X := X.set aj (.cells (V.over cs (ps.length * 3) [iv q.1.e, iv q.1.n, iv q.1.o])) ++ [.cells [iv q.1.e, iv q.1.n, iv q.1.o], .cells [iv q.1.e, iv q.1.n, iv q.1.o]]) (b := h.length) (ks := ps.map (·.1)) (q := q.1) (a := aj) (c := c) (cs := V.over cs (ps.length * 3) [iv q.1.e, iv q.1.n, iv q.1.o]) (by rw [List.getElem?_append_left (by simpa using hxl)]; simp [hxl]) (by rw [over_len (by simp; omega)]; exact hcl) (by rw [hnk]; omega) (by
              rw [hnk, hov _ (by omega), htk]
              rfl)
            rw [hnk] at this
            simpa using this
          · rw [← hst]
            exact st_keep' (by simp []) (by simp [])
        · subst hmc
          refine aops_end ?_
          refine zn ?_
          refine goes_done ?_
          (try simp only [vq, if_true, reduceIte, Nat.reduceEqDiff, reduceCtorEq])
          refine zn ?_
          refine goes_done ?_
          (try simp only [vq, if_true, reduceIte, Nat.reduceEqDiff, reduceCtorEq])
          repeat (first | ((first | refine zd ?_ | refine zx ?_ | refine zk ?_ | refine zl ?_ | refine zr ?_); refine zq ?_) | refine zs ?_ | refine zg ?_ | refine zb ?_ | refine zo ?_ | refine zt ?_ | refine zf ?_)
          refine ⟨_, hlt, ps ++ [q], .arr (h.length + (X.length + 2 + 2)) 0 (ps.length + 1) c', X ++ [.cells [iv q.1.e, iv q.1.n, iv q.1.o], .cells [iv q.1.e, iv q.1.n, iv q.1.o], .cells (cs ++ [iv q.1.e, iv q.1.n, iv q.1.o] ++ u)], rfl, by simp only [List.length_append, List.length_singleton]; omega, hps2, hnd2, ?_, ?_⟩
          · have := col_mk (X := X ++ [.cells [iv q.1.e, iv q.1.n, iv q.1.o], .cells [iv q.1.e, iv q.1.n, iv q.1.o], .cells (cs ++ [iv q.1.e, iv q.1.n, iv q.1.o] ++ u)]) (b := h.length) (ks := ps.map (·.1)) (q := q.1) (a := X.length + 2) (c := c') (cs := cs ++ [iv q.1.e, iv q.1.n, iv q.1.o] ++ u) (by simp) (by simp [hu, hcl]; omega) (by simpa using hc') (by
              rw [hnk, ← htk, List.take_of_length_le (l := cs) (by omega), List.take_append_of_le_length (by simp; omega), List.take_of_length_le (by simp; omega)]
              rfl)
            rw [hnk] at this
            simpa using this
          · rw [← hst]
            exact st_keep' (by simp []) (by simp [])
  · exact ⟨[], .list [] .full, [], rfl, by have := List.length_filter_le (fun q : Iid × AV × Nat => !(([] : Ents Iid).map (·.2.2)).contains q.2.2) p.1; simp only [List.length_nil, Nat.zero_add]; exact this, (fun q hq => by cases hq), by simp, .inl ⟨rfl, rfl⟩, st_keep' (by simp []) (by simp [])⟩
end Go.Proofs.YtdncoobpdllpkaaGreat.I
