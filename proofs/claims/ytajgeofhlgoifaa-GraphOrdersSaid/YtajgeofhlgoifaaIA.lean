import Derived.Shelf.SlLaysF0
import Derived.Shelf.SlLaysF
import Derived.Test.YtajgeofhlgoifaaProg
import Derived.Test.YtajgeofhlgoifaaVT
import Derived.Test.YtajgeofhlgoifaaV34
import Derived.Test.YtajgeofhlgoifaaV27
import Derived.Test.YtajgeofhlgoifaaV28
import Derived.Test.YtajgeofhlgoifaaV31
/- Contracts of the library, laid at this program: numbers and comparisons only (a program of the kit wrote these lines). -/
namespace Go.Proofs
open Go.Shelf
def Try.sortL_ren : Go.Shelf.Ren := ⟨fun | 6 => 61 | 15 => 55 | 14 => 83 | 28 => 80 | 29 => 81 | 20 => 91 | 21 => 92 | 22 => 93 | 23 => 94 | 24 => 95 | 25 => 96 | 26 => 97 | 27 => 98 | 46 => 100 | 47 => 87 | 48 => 88 | 49 => 101 | 50 => 102 | 57 => 103 | n => n, fun | 22 => 23 | 24 => 25 | 25 => 67 | 3 => 3 | 39 => 95 | 0 => 0 | 53 => 116 | 55 => 118 | 4 => 4 | 46 => 109 | 45 => 108 | 50 => 113 | 5 => 5 | 9 => 9 | 66 => 123 | 70 => 127 | 76 => 134 | 77 => 135 | n => n, fun | n => n⟩
theorem Try.sortL : Go.Proofs.SlLaysF0.n6 Try.prog Try.sortL_ren := {
  mixed := by kernel_rfl
  f6 := ⟨Try.f61.name, by decide, Try.func61.trans (congrArg some (by kernel_rfl))⟩
  f14 := ⟨Try.f83.name, by decide, Try.func83.trans (congrArg some (by kernel_rfl))⟩
  f15 := Try.func55.trans (congrArg some (by kernel_rfl))
  f20 := ⟨Try.f91.name, by decide, Try.func91.trans (congrArg some (by kernel_rfl))⟩
  f21 := ⟨Try.f92.name, by decide, Try.func92.trans (congrArg some (by kernel_rfl))⟩
  f22 := ⟨Try.f93.name, by decide, Try.func93.trans (congrArg some (by kernel_rfl))⟩
  f23 := ⟨Try.f94.name, by decide, Try.func94.trans (congrArg some (by kernel_rfl))⟩
  f24 := ⟨Try.f95.name, by decide, Try.func95.trans (congrArg some (by kernel_rfl))⟩
  f25 := ⟨Try.f96.name, by decide, Try.func96.trans (congrArg some (by kernel_rfl))⟩
  f26 := ⟨Try.f97.name, by decide, Try.func97.trans (congrArg some (by kernel_rfl))⟩
  f27 := ⟨Try.f98.name, by decide, Try.func98.trans (congrArg some (by kernel_rfl))⟩
  f28 := Try.func80.trans (congrArg some (by kernel_rfl))
  f29 := Try.func81.trans (congrArg some (by kernel_rfl))
  f46 := ⟨Try.f100.name, by decide, Try.func100.trans (congrArg some (by kernel_rfl))⟩
  f47 := Try.func87.trans (congrArg some (by kernel_rfl))
  f48 := Try.func88.trans (congrArg some (by kernel_rfl))
  f49 := ⟨Try.f101.name, by decide, Try.func101.trans (congrArg some (by kernel_rfl))⟩
  f50 := ⟨Try.f102.name, by decide, Try.func102.trans (congrArg some (by kernel_rfl))⟩
  f57 := ⟨Try.f103.name, by decide, Try.func103.trans (congrArg some (by kernel_rfl))⟩
  t0 := Try.underlying0
  a0 := Try.isAgg0
  z0 := Try.sizeOf0
  v0 := Try.zeroValue0
  t3 := Try.underlying3
  a3 := Try.isAgg3
  z3 := Try.sizeOf3
  v3 := Try.zeroValue3
  t4 := Try.underlying4
  a4 := Try.isAgg4
  z4 := Try.sizeOf4
  v4 := Try.zeroValue4
  t5 := Try.underlying5
  a5 := Try.isAgg5
  z5 := Try.sizeOf5
  v5 := Try.zeroValue5
  t9 := Try.underlying9
  a9 := Try.isAgg9
  z9 := Try.sizeOf9
  v9 := Try.zeroValue9
  t22 := Try.underlying23
  a22 := Try.isAgg23
  z22 := Try.sizeOf23
  v22 := Try.zeroValue23
  t25 := Try.underlying67
  a25 := Try.isAgg67
  z25 := Try.sizeOf67
  v25 := Try.zeroValue67
  t39 := Try.underlying95
  a39 := Try.isAgg95
  z39 := Try.sizeOf95
  v39 := Try.zeroValue95
  t45 := Try.underlying108
  a45 := Try.isAgg108
  z45 := Try.sizeOf108
  v45 := Try.zeroValue108
  t46 := Try.underlying109
  a46 := Try.isAgg109
  z46 := Try.sizeOf109
  v46 := Try.zeroValue109
  t50 := Try.underlying113
  a50 := Try.isAgg113
  z50 := Try.sizeOf113
  v50 := Try.zeroValue113
  t53 := Try.underlying116
  a53 := Try.isAgg116
  z53 := Try.sizeOf116
  v53 := Try.zeroValue116
  t55 := Try.underlying118
  a55 := Try.isAgg118
  z55 := Try.sizeOf118
  v55 := Try.zeroValue118
  t66 := Try.underlying123
  a66 := Try.isAgg123
  z66 := Try.sizeOf123
  v66 := Try.zeroValue123
  t70 := Try.underlying127
  a70 := Try.isAgg127
  z70 := Try.sizeOf127
  v70 := Try.zeroValue127
  t76 := Try.underlying134
  a76 := Try.isAgg134
  z76 := Try.sizeOf134
  v76 := Try.zeroValue134
  t77 := Try.underlying135
  a77 := Try.isAgg135
  z77 := Try.sizeOf135
  v77 := Try.zeroValue135 }
def Try.sortG_ren : Go.Shelf.Ren := ⟨fun | 6 => 31 | 15 => 55 | 14 => 54 | 28 => 80 | 29 => 81 | 20 => 72 | 21 => 73 | 22 => 74 | 23 => 75 | 24 => 76 | 25 => 77 | 26 => 78 | 27 => 79 | 46 => 86 | 47 => 87 | 48 => 88 | 49 => 89 | 50 => 90 | 57 => 99 | n => n, fun | 22 => 30 | 24 => 23 | 25 => 69 | 3 => 3 | 39 => 95 | 0 => 0 | 53 => 116 | 55 => 118 | 4 => 4 | 46 => 109 | 45 => 108 | 50 => 113 | 5 => 5 | 9 => 9 | 66 => 123 | 70 => 127 | 76 => 134 | 77 => 135 | n => n, fun | n => n⟩
theorem Try.sortG : Go.Proofs.SlLaysF.n6 Try.prog Try.sortG_ren := {
  mixed := by kernel_rfl
  f6 := ⟨Try.f31.name, by decide, Try.func31.trans (congrArg some (by kernel_rfl))⟩
  f14 := ⟨Try.f54.name, by decide, Try.func54.trans (congrArg some (by kernel_rfl))⟩
  f15 := Try.func55.trans (congrArg some (by kernel_rfl))
  f20 := ⟨Try.f72.name, by decide, Try.func72.trans (congrArg some (by kernel_rfl))⟩
  f21 := ⟨Try.f73.name, by decide, Try.func73.trans (congrArg some (by kernel_rfl))⟩
  f22 := ⟨Try.f74.name, by decide, Try.func74.trans (congrArg some (by kernel_rfl))⟩
  f23 := ⟨Try.f75.name, by decide, Try.func75.trans (congrArg some (by kernel_rfl))⟩
  f24 := ⟨Try.f76.name, by decide, Try.func76.trans (congrArg some (by kernel_rfl))⟩
  f25 := ⟨Try.f77.name, by decide, Try.func77.trans (congrArg some (by kernel_rfl))⟩
  f26 := ⟨Try.f78.name, by decide, Try.func78.trans (congrArg some (by kernel_rfl))⟩
  f27 := ⟨Try.f79.name, by decide, Try.func79.trans (congrArg some (by kernel_rfl))⟩
  f28 := Try.func80.trans (congrArg some (by kernel_rfl))
  f29 := Try.func81.trans (congrArg some (by kernel_rfl))
  f46 := ⟨Try.f86.name, by decide, Try.func86.trans (congrArg some (by kernel_rfl))⟩
  f47 := Try.func87.trans (congrArg some (by kernel_rfl))
  f48 := Try.func88.trans (congrArg some (by kernel_rfl))
  f49 := ⟨Try.f89.name, by decide, Try.func89.trans (congrArg some (by kernel_rfl))⟩
  f50 := ⟨Try.f90.name, by decide, Try.func90.trans (congrArg some (by kernel_rfl))⟩
  f57 := ⟨Try.f99.name, by decide, Try.func99.trans (congrArg some (by kernel_rfl))⟩
  t0 := Try.underlying0
  a0 := Try.isAgg0
  z0 := Try.sizeOf0
  v0 := Try.zeroValue0
  t3 := Try.underlying3
  a3 := Try.isAgg3
  z3 := Try.sizeOf3
  v3 := Try.zeroValue3
  t4 := Try.underlying4
  a4 := Try.isAgg4
  z4 := Try.sizeOf4
  v4 := Try.zeroValue4
  t5 := Try.underlying5
  a5 := Try.isAgg5
  z5 := Try.sizeOf5
  v5 := Try.zeroValue5
  t9 := Try.underlying9
  a9 := Try.isAgg9
  z9 := Try.sizeOf9
  v9 := Try.zeroValue9
  t22 := Try.underlying30
  a22 := Try.isAgg30
  z22 := Try.sizeOf30
  v22 := Try.zeroValue30
  a24 := Try.isAgg23
  z24 := Try.sizeOf23
  t25 := Try.underlying69
  a25 := Try.isAgg69
  z25 := Try.sizeOf69
  v25 := Try.zeroValue69
  t39 := Try.underlying95
  a39 := Try.isAgg95
  z39 := Try.sizeOf95
  v39 := Try.zeroValue95
  t45 := Try.underlying108
  a45 := Try.isAgg108
  z45 := Try.sizeOf108
  v45 := Try.zeroValue108
  t46 := Try.underlying109
  a46 := Try.isAgg109
  z46 := Try.sizeOf109
  v46 := Try.zeroValue109
  t50 := Try.underlying113
  a50 := Try.isAgg113
  z50 := Try.sizeOf113
  v50 := Try.zeroValue113
  t53 := Try.underlying116
  a53 := Try.isAgg116
  z53 := Try.sizeOf116
  v53 := Try.zeroValue116
  t55 := Try.underlying118
  a55 := Try.isAgg118
  z55 := Try.sizeOf118
  v55 := Try.zeroValue118
  t66 := Try.underlying123
  a66 := Try.isAgg123
  z66 := Try.sizeOf123
  v66 := Try.zeroValue123
  t70 := Try.underlying127
  a70 := Try.isAgg127
  z70 := Try.sizeOf127
  v70 := Try.zeroValue127
  t76 := Try.underlying134
  a76 := Try.isAgg134
  z76 := Try.sizeOf134
  v76 := Try.zeroValue134
  t77 := Try.underlying135
  a77 := Try.isAgg135
  z77 := Try.sizeOf135
  v77 := Try.zeroValue135 }
end Go.Proofs

/- Sets of instances: what they are; their order. -/
set_option linter.unusedVariables false
set_option linter.unusedSimpArgs false
set_option maxRecDepth 20000
namespace Go.Proofs.Ytajgeofhlgoifaa.I
open Go Go.Proofs.Ytajgeofhlgoifaa.V
abbrev iv (n : Int) : AV := .int .i64 n
structure Iid where
  e : Int
  n : Int
  o : Int
  deriving DecidableEq
def Iid.c (x : Iid) : List AV := [iv x.e, iv x.n, iv x.o]
def Iid.av (x : Iid) : AV := .agg x.c
def Iid.kv (x : Iid) : Value := .agg #[.int .i64 x.e, .int .i64 x.n, .int .i64 x.o]
theorem iid_rel {g : Ghost} {v : Value} {a : Iid} (h : VRel g (Iid.av a) v) : v = a.kv := by
  obtain ⟨vs, rfl, hc⟩ := h.agg_cells
  obtain ⟨l⟩ := vs
  have hl : l.length = 3 := by have := hc.1; simpa [Iid.c] using this.symm
  match l, hl with
  | [x, y, z], _ =>
    have h0 := hc.2 0 (by simp [Iid.c]) (by simp)
    have h1 := hc.2 1 (by simp [Iid.c]) (by simp)
    have h2 := hc.2 2 (by simp [Iid.c]) (by simp)
    simp only [Iid.c, List.getElem_cons_zero, List.getElem_cons_succ] at h0 h1 h2
    rw [h0.int_eq, h1.int_eq, h2.int_eq]
    rfl
theorem iid_back (g : Ghost) (a : Iid) : VRel g (Iid.av a) a.kv := by
  refine .agg _ _ rfl fun i h1 h2 => ?_
  have : i = 0 ∨ i = 1 ∨ i = 2 := by simp [Iid.c] at h1; omega
  rcases this with rfl | rfl | rfl <;> exact .int _ _
def g00 : Ghost := ⟨0, fun _ => .loose .nilFunc, fun _ _ => none, fun _ => none, 0⟩
theorem iid_eqV (a b : Iid) : eqV Try.prog 5 25 (Iid.av a) (Iid.av b) = some (decide (a = b)) := by
  obtain ⟨a1, a2, a3⟩ := a
  obtain ⟨b1, b2, b3⟩ := b
  have e : ∀ x y : Int, (x == y) = decide (x = y) := fun x y => by by_cases h : x = y <;> simp [h]
  simp [eqV, eqFs, Iid.av, Iid.c, partA, e]
theorem iid_eq (a b : Iid) (w : World) : (Op.equal 25 a.kv b.kv).run Try.prog w = .ok (decide (a = b)) w := by
  have := eqV_sound (P := Try.prog) (g := g00) 9995 5 _ _ _ _ _ _ (iid_eqV a b) (iid_back g00 a) (iid_back g00 b) w
  exact this
theorem iid_ck (e : Bool) (a : Iid) (w : World) : (Instr.checkKey e 10000 25 a.kv).run Try.prog w = .ok () w := by
  unfold Instr.checkKey
  simp [run_underlying Try.underlying25, Iid.kv]
  have ha : ∀ w : World, (isAgg 3).run Try.prog w = .ok false w := fun w => by simp [isAgg, run_underlying Try.underlying3]
  have hp : ∀ (cs : Array Value) (k : Nat) (v : Value) (w : World), cs[k]? = some v → (part 3 cs k).run Try.prog w = .ok v w := fun cs k v w h => by simp [part, ha, h]
  have hc : ∀ (z : Int) (w : World), (Instr.checkKey e 9999 3 (.int .i64 z)).run Try.prog w = .ok () w := fun z w => by unfold Instr.checkKey; simp [run_underlying Try.underlying3]
  rw [hp _ 0 (.int .i64 a.e) w rfl]
  simp [hc]
  rw [hp _ 1 (.int .i64 a.n) w rfl]
  simp [hc]
  rw [hp _ 2 (.int .i64 a.o) w rfl]
  simp [hc]
theorem iid_key : KeyFor Try.prog 25 Iid.av Iid.kv where
  rel := iid_rel
  eq := iid_eq
  now := ⟨_, Try.underlying25, fun a b => rfl⟩
  ck := iid_ck
  same := fun a => by simp [Instr.sameBits, Iid.kv]
end Go.Proofs.Ytajgeofhlgoifaa.I

/- Sets of instances: which of two comes first. -/
set_option linter.unusedVariables false
set_option linter.unusedSimpArgs false
set_option maxRecDepth 20000
namespace Go.Proofs.Ytajgeofhlgoifaa.I
open Go Go.Proofs.Ytajgeofhlgoifaa.V
def cmpI (x y : Int) : Int := if x < y then -1 else if y < x then 1 else 0
theorem nan_ok (x : Int) (h : AHeap) : ACalls Try.prog 84 [iv x] h fun r h' => r = .bool false ∧ h' = h := by
  refine acalls_of_awp Try.func84 rfl (by simp only [List.length_cons, List.length_nil]; decide) ?_
  simp only [params_cons, params_nil]
  repeat (first | ((first | refine zd ?_ | refine zx ?_ | refine zk ?_ | refine zl ?_ | refine zr ?_); refine zq ?_) | refine zs ?_ | refine zg ?_ | refine zb ?_ | refine zo ?_ | refine zt ?_ | refine zf ?_)
  first | refine zY (.inr rfl) ?_ | refine zY (.inl rfl) ?_
  simp
theorem cmp_ok (x y : Int) (h : AHeap) : ACalls Try.prog 67 [iv x, iv y] h fun r h' => r = iv (cmpI x y) ∧ h' = h := by
  refine acalls_of_awp Try.func67 rfl (by simp only [List.length_cons, List.length_nil]; decide) ?_
  simp only [params_cons, params_nil]
  repeat (first | ((first | refine zd ?_ | refine zx ?_ | refine zk ?_ | refine zl ?_ | refine zr ?_); refine zq ?_) | refine zs ?_ | refine zg ?_ | refine zb ?_ | refine zo ?_ | refine zt ?_ | refine zf ?_)
  refine zp (callable_of Try.func84) _ (nan_ok x _) ?_
  rintro _ h1 ⟨rfl, rfl⟩
  refine ze ?_
  repeat (first | ((first | refine zd ?_ | refine zx ?_ | refine zk ?_ | refine zl ?_ | refine zr ?_); refine zq ?_) | refine zs ?_ | refine zg ?_ | refine zb ?_ | refine zo ?_ | refine zt ?_ | refine zf ?_)
  refine zp (callable_of Try.func84) _ (nan_ok y _) ?_
  rintro _ h1 ⟨rfl, rfl⟩
  refine ze ?_
  unfold cmpI
  by_cases h1 : x < y
  · repeat (first | ((first | refine zd ?_ | refine zx ?_ | refine zk ?_ | refine zl ?_ | refine zr ?_); refine zq ?_) | refine zs ?_ | refine zh (by simp -implicitDefEqProofs (disch := (first | omega | (simp; done) | fail)) [if_pos, if_neg, wrap_i64, tmod_pos, tdiv_pos, Int.toNat_add, h1]; rfl) ?_ | refine zb ?_ | refine zo ?_ | refine zt ?_ | refine zf ?_)
    first | refine zY (.inr rfl) ?_ | refine zY (.inl rfl) ?_
    simp [h1]
  · by_cases h2 : y < x
    · repeat (first | ((first | refine zd ?_ | refine zx ?_ | refine zk ?_ | refine zl ?_ | refine zr ?_); refine zq ?_) | refine zs ?_ | refine zh (by simp -implicitDefEqProofs (disch := (first | omega | (simp; done) | fail)) [if_pos, if_neg, wrap_i64, tmod_pos, tdiv_pos, Int.toNat_add, h1, h2]; rfl) ?_ | refine zb ?_ | refine zo ?_ | refine zt ?_ | refine zf ?_)
      first | refine zY (.inr rfl) ?_ | refine zY (.inl rfl) ?_
      simp [h1, h2]
    · repeat (first | ((first | refine zd ?_ | refine zx ?_ | refine zk ?_ | refine zl ?_ | refine zr ?_); refine zq ?_) | refine zs ?_ | refine zh (by simp -implicitDefEqProofs (disch := (first | omega | (simp; done) | fail)) [if_pos, if_neg, wrap_i64, tmod_pos, tdiv_pos, Int.toNat_add, h1, h2]; rfl) ?_ | refine zb ?_ | refine zo ?_ | refine zt ?_ | refine zf ?_)
      first | refine zY (.inr rfl) ?_ | refine zY (.inl rfl) ?_
      simp [h1, h2]
def orI : List Int → Int
  | [] => 0
  | x :: l => if x = 0 then orI l else x
theorem orI_cons (x : Int) (l : List Int) : orI (x :: l) = if x = 0 then orI l else x := rfl
theorem or_ok (l : List Int) (t : Tok) (hl : l.length ≤ 1000) (h : AHeap) : ACalls Try.prog 66 [.list (l.map iv) t] h fun r h' => r = iv (orI l) ∧ h' = h := by
  refine acalls_of_awp Try.func66 rfl (by simp only [List.length_cons, List.length_nil]; decide) ?_
  simp only [params_cons, params_nil]
  repeat (first | ((first | refine zd ?_ | refine zx ?_ | refine zk ?_ | refine zl ?_ | refine zr ?_); refine zq ?_) | refine zs ?_ | refine zg ?_ | refine zb ?_ | refine zo ?_ | refine zt ?_ | refine zf ?_)
  refine awp_loop (fun n st => ∃ j : Nat, n = l.length - j ∧ j ≤ l.length ∧ orI (l.drop j) = orI l ∧ st.le ⟨Try.f66.ntmps, [(0, .list (l.map iv) t), (2, iv 0), (3, iv 0), (6, .list (l.map iv) t), (7, iv (l.length : Nat)), (8, iv (j : Nat))], h⟩) l.length ?_ ?_
  rotate_left
  rintro n st ⟨j, rfl, hj, hg, hle⟩
  · refine awp_le hle ?_
    clear hle
    by_cases h9 : j = l.length
    · subst h9
      have q : ¬ (l.length : Int) < (l.length : Int) := by omega
      rw [List.drop_length] at hg
      repeat (first | ((first | refine zd ?_ | refine zx ?_ | refine zk ?_ | refine zl ?_ | refine zr ?_); refine zq ?_) | refine zs ?_ | refine zh (by simp -implicitDefEqProofs (disch := (first | omega | (simp; done) | fail)) [if_pos, if_neg, wrap_i64, tmod_pos, tdiv_pos, Int.toNat_add, q]; rfl) ?_ | refine zb ?_ | refine zo ?_ | refine zt ?_ | refine zf ?_)
      first | refine zY (.inr rfl) ?_ | refine zY (.inl rfl) ?_
      simp [← hg, orI]
    have hlt : j < l.length := by omega
    have q : (j : Int) < (l.length : Int) := by omega
    have hx2 : (l.map iv)[j]? = some (iv l[j]) := by simp [hlt]
    rw [List.drop_eq_getElem_cons hlt] at hg
    rw [orI_cons] at hg
    generalize l[j] = x at *
    clear hlt
    by_cases hx : x = 0
    · subst hx
      rw [if_pos rfl] at hg
      repeat (first | ((first | refine zd ?_ | refine zx ?_ | refine zk ?_ | refine zl ?_ | refine zr ?_); refine zq ?_) | refine zs ?_ | refine zh (by simp -implicitDefEqProofs (disch := (first | omega | (simp; done) | fail)) [if_pos, if_neg, wrap_i64, tmod_pos, tdiv_pos, Int.toNat_add, q, hx2]; rfl) ?_ | refine zb ?_ | refine zo ?_ | refine zt ?_ | refine zf ?_)
      exact ⟨l.length - (j + 1), by omega, j + 1, rfl, by omega, hg, st_keep' (by simp []) (by simp [])⟩
    · rw [if_neg hx] at hg
      have hx3 : (x != 0) = true := by simpa using hx
      repeat (first | ((first | refine zd ?_ | refine zx ?_ | refine zk ?_ | refine zl ?_ | refine zr ?_); refine zq ?_) | refine zs ?_ | refine zh (by simp -implicitDefEqProofs (disch := (first | omega | (simp; done) | fail)) [if_pos, if_neg, wrap_i64, tmod_pos, tdiv_pos, Int.toNat_add, q, hx2, hx3]; rfl) ?_ | refine zb ?_ | refine zo ?_ | refine zt ?_ | refine zf ?_)
      first | refine zY (.inr rfl) ?_ | refine zY (.inl rfl) ?_
      simp [← hg]
  · exact ⟨0, rfl, by omega, rfl, st_keep' (by simp []) (by simp [])⟩
def ordI (a b : Iid) : Int := orI [cmpI a.e b.e, cmpI a.o b.o, cmpI a.n b.n]
theorem order_ok (a b : Iid) (h : AHeap) : ACalls Try.prog 47 [Iid.av a, Iid.av b] h fun r h' => r = iv (ordI a b) ∧ h' = h := by
  unfold Iid.av Iid.c
  refine acalls_of_awp Try.func47 rfl (by simp only [List.length_cons, List.length_nil]; decide) ?_
  simp only [params_cons, params_nil]
  refine awp_seq ?_
  refine zg ?_
  refine goes_done ?_
  (try simp only [vq, if_true, reduceIte, Nat.reduceEqDiff, reduceCtorEq])
  refine awp_hard (id := h.length) (by simp -implicitDefEqProofs; rfl) ?_
  simp -implicitDefEqProofs only [Slots.melt, AV.melt, Nat.add_left_cancel_iff, Nat.add_eq_left, Nat.left_eq_add, Nat.reduceEqDiff, reduceIte, Nat.succ_ne_self, Nat.one_ne_zero, Nat.zero_ne_one, List.set_append_right, List.set_append_left, Nat.sub_self, Nat.le_refl, Nat.add_sub_cancel_left, Nat.le_add_right, List.set_cons_zero, List.set_cons_succ]
  refine awp_hard (id := h.length + 1) (by simp -implicitDefEqProofs; rfl) ?_
  simp -implicitDefEqProofs only [Slots.melt, AV.melt, Nat.add_left_cancel_iff, Nat.add_eq_left, Nat.left_eq_add, Nat.reduceEqDiff, reduceIte, Nat.succ_ne_self, Nat.one_ne_zero, Nat.zero_ne_one, List.set_append_right, List.set_append_left, Nat.sub_self, Nat.le_refl, Nat.add_sub_cancel_left, Nat.le_add_right, List.set_cons_zero, List.set_cons_succ]
  repeat (first | ((first | refine zd ?_ | refine zx ?_ | refine zk ?_ | refine zl ?_ | refine zr ?_); refine zq ?_) | refine zs ?_ | refine zg ?_ | refine zb ?_ | refine zo ?_ | refine zt ?_ | refine zf ?_)
  refine awp_draw (.q 0 (.q 1 (.q 2 (.q 3 (.q 5 (.q 6 (.q 7 (.q 8 (.q 10 (.q 11 (.q 12 (.q 13 (.a 4 (.a 9 (.a 14 (.a 15 (.a 16 (.q 17 (.done))))))))))))))))))) (by kernel_rfl) (by kernel_rfl) (tree_start (goesT_eq (by simp -implicitDefEqProofs (disch := (first | omega | (simp; done) | fail)) [if_pos, if_neg, wrap_i64, tmod_pos, tdiv_pos, Int.toNat_add]; rfl) ?_))
  refine zP (callable_of Try.func67) _ (cmp_ok a.e b.e _) ?_
  rintro _ h1 ⟨rfl, rfl⟩
  refine zE ?_
  refine zP (callable_of Try.func67) _ (cmp_ok a.o b.o _) ?_
  rintro _ h1 ⟨rfl, rfl⟩
  refine zE ?_
  refine zP (callable_of Try.func67) _ (cmp_ok a.n b.n _) ?_
  rintro _ h1 ⟨rfl, rfl⟩
  refine zE ?_
  refine zP (callable_of Try.func66) _ (or_ok [cmpI a.e b.e, cmpI a.o b.o, cmpI a.n b.n] .no (by simp) _) ?_
  rintro _ h1 ⟨rfl, rfl⟩
  refine zE ?_
  refine goesT_done ?_
  (try simp only [vq, if_true, reduceIte, Nat.reduceEqDiff, reduceCtorEq])
  repeat (first | ((first | refine zd ?_ | refine zx ?_ | refine zk ?_ | refine zl ?_ | refine zr ?_); refine zq ?_) | refine zs ?_ | refine zg ?_ | refine zb ?_ | refine zo ?_ | refine zt ?_ | refine zf ?_)
  first | refine zy (.inr rfl) ?_ | refine zy (.inl rfl) ?_
  simp [ordI]
theorem cmpI_range (x y : Int) : -1 ≤ cmpI x y ∧ cmpI x y ≤ 1 := by
  unfold cmpI
  split
  · omega
  · split <;> omega
def lessB (a b : Iid) : Bool := decide (a.e < b.e ∨ a.e = b.e ∧ (a.o < b.o ∨ a.o = b.o ∧ a.n < b.n))
theorem ord_less (a b : Iid) : decide (ordI a b < 0) = lessB a b := by
  unfold ordI lessB orI orI orI orI cmpI
  apply Bool.eq_iff_iff.2
  simp only [decide_eq_true_eq]
  by_cases h1 : a.e < b.e
  · simp [h1]
  by_cases h2 : b.e < a.e
  · have : ¬ a.e = b.e := by omega
    simp [h1, h2, this]
  have h3 : a.e = b.e := by omega
  by_cases h4 : a.o < b.o
  · simp [h3, h4]
  by_cases h5 : b.o < a.o
  · have : ¬ a.o = b.o := by omega
    simp [h3, h4, h5, this]
  have h6 : a.o = b.o := by omega
  by_cases h7 : a.n < b.n
  · simp [h3, h6, h7]
  by_cases h8 : b.n < a.n
  · simp [h3, h6, h7, h8]
  · simp [h3, h6, h7, h8]
theorem less_ok (a b : Iid) (h : AHeap) : ACalls Try.prog 25 [Iid.av a, Iid.av b] h fun r h' => r = .bool (lessB a b) ∧ h' = h := by
  have ho := fun h => order_ok a b h
  rw [← ord_less]
  unfold Iid.av Iid.c at ho ⊢
  refine acalls_of_awp Try.func25 rfl (by simp only [List.length_cons, List.length_nil]; decide) ?_
  simp only [params_cons, params_nil]
  refine awp_seq ?_
  refine zg ?_
  refine goes_done ?_
  (try simp only [vq, if_true, reduceIte, Nat.reduceEqDiff, reduceCtorEq])
  refine awp_hard (id := h.length) (by simp -implicitDefEqProofs; rfl) ?_
  simp -implicitDefEqProofs only [Slots.melt, AV.melt, Nat.add_left_cancel_iff, Nat.add_eq_left, Nat.left_eq_add, Nat.reduceEqDiff, reduceIte, Nat.succ_ne_self, Nat.one_ne_zero, Nat.zero_ne_one, List.set_append_right, List.set_append_left, Nat.sub_self, Nat.le_refl, Nat.add_sub_cancel_left, Nat.le_add_right, List.set_cons_zero, List.set_cons_succ]
  refine awp_hard (id := h.length + 1) (by simp -implicitDefEqProofs; rfl) ?_
  simp -implicitDefEqProofs only [Slots.melt, AV.melt, Nat.add_left_cancel_iff, Nat.add_eq_left, Nat.left_eq_add, Nat.reduceEqDiff, reduceIte, Nat.succ_ne_self, Nat.one_ne_zero, Nat.zero_ne_one, List.set_append_right, List.set_append_left, Nat.sub_self, Nat.le_refl, Nat.add_sub_cancel_left, Nat.le_add_right, List.set_cons_zero, List.set_cons_succ]
  repeat (first | ((first | refine zd ?_ | refine zx ?_ | refine zk ?_ | refine zl ?_ | refine zr ?_); refine zq ?_) | refine zs ?_ | refine zg ?_ | refine zb ?_ | refine zo ?_ | refine zt ?_ | refine zf ?_)
  refine zp (callable_of Try.func47) _ (ho _) ?_
  rintro _ h1 ⟨rfl, rfl⟩
  refine ze ?_
  repeat (first | ((first | refine zd ?_ | refine zx ?_ | refine zk ?_ | refine zl ?_ | refine zr ?_); refine zq ?_) | refine zs ?_ | refine zg ?_ | refine zb ?_ | refine zo ?_ | refine zt ?_ | refine zf ?_)
  first | refine zy (.inr rfl) ?_ | refine zy (.inl rfl) ?_
  simp
end Go.Proofs.Ytajgeofhlgoifaa.I

/- Sets of instances: lists as a set. -/
set_option linter.unusedVariables false
set_option linter.unusedSimpArgs false
set_option maxRecDepth 20000
namespace Go.Proofs.Ytajgeofhlgoifaa.I
open Go Go.Proofs.Ytajgeofhlgoifaa.V
abbrev MS := Ents Iid × Nat
def putL (p : MS) (ks : List Iid) : MS := ks.foldl (fun p k => (putE k (.bool true) p.2 p.1, putC k p.2 p.1)) p
def MS.o (p : MS) : AObj := mapO Iid.av p.1 p.2
def lv (l : List Iid) : AV := .list (l.map Iid.av) .no
theorem putL_snoc (p : MS) (ks : List Iid) (k : Iid) : putL p (ks ++ [k]) = (putE k (.bool true) (putL p ks).2 (putL p ks).1, putC k (putL p ks).2 (putL p ks).1) := by simp [putL]
theorem of_ok (ls : List (List Iid)) (t : Tok) (hn : ls.length ≤ 1000) (hl : ∀ l ∈ ls, l.length ≤ 100000) (h : AHeap) : ACalls Try.prog 49 [.list (ls.map lv) t] h fun r h' => r = .map h.length ∧ ∃ X, h' = h ++ (putL ([], 0) ls.flatten).o :: X := by
  have hu1 : uni 1 (ls.map lv) = true := uni_map fun _ => rfl
  refine acalls_of_awp Try.func49 rfl (by simp only [List.length_cons, List.length_nil]; decide) ?_
  simp only [params_cons, params_nil]
  refine awp_seq ?_
  refine zg ?_
  refine goes_done ?_
  (try simp only [vq, if_true, reduceIte, Nat.reduceEqDiff, reduceCtorEq])
  refine awp_seq ?_
  refine awp_region_at 0 rfl rfl ?_
  refine zn ?_
  refine goes_done ?_
  refine aops_makeMap rfl rfl ?_
  refine aops_end ?_
  refine zn ?_
  refine goes_done ?_
  simp only [vq, if_true, reduceIte, Nat.reduceEqDiff, reduceCtorEq]
  repeat (first | ((first | refine zd ?_ | refine zx ?_ | refine zk ?_ | refine zl ?_ | refine zr ?_); refine zq ?_) | refine zs ?_ | refine zg ?_ | refine zb ?_ | refine zo ?_ | refine zt ?_ | refine zf ?_)
  refine awp_loop (fun z st => ∃ (i : Nat) (X : AHeap), z = ls.length - i ∧ i ≤ ls.length ∧ st.le ⟨Try.f49.ntmps, [(3, .map h.length), (9, .list (ls.map lv) t), (10, iv (ls.length : Nat)), (11, iv (i : Nat))], h ++ (putL ([], 0) (ls.take i).flatten).o :: X⟩) ls.length ?_ ?_
  rotate_left
  rintro z st ⟨i, X, rfl, hi, hle⟩
  · refine awp_le hle ?_
    clear hle
    by_cases h9 : i = ls.length
    · subst h9
      have q : ¬ (ls.length : Int) < (ls.length : Int) := by omega
      rw [List.take_length]
      repeat (first | ((first | refine zd ?_ | refine zx ?_ | refine zk ?_ | refine zl ?_ | refine zr ?_); refine zq ?_) | refine zs ?_ | refine zh (by simp -implicitDefEqProofs (disch := (first | omega | (simp; done) | fail)) [if_pos, if_neg, wrap_i64, tmod_pos, tdiv_pos, Int.toNat_add, q]; rfl) ?_ | refine zb ?_ | refine zo ?_ | refine zt ?_ | refine zf ?_)
      first | refine body_all (.inr rfl) (by simp -implicitDefEqProofs; rfl) (by simp -implicitDefEqProofs; rfl) (by first | (simp; done) | (simp; omega) | omega) ?_ | refine body_all (.inl rfl) (by simp -implicitDefEqProofs; rfl) (by simp -implicitDefEqProofs; rfl) (by first | (simp; done) | (simp; omega) | omega) ?_
      exact ⟨rfl, X, rfl⟩
    have hlt : i < ls.length := by omega
    have q : (i : Int) < (ls.length : Int) := by omega
    have hx2 : (ls.map lv)[i]? = some (.list (ls[i].map Iid.av) .no) := by simp [hlt, lv]
    have hll := hl ls[i] (List.getElem_mem hlt)
    have htk : ls.take (i + 1) = ls.take i ++ [ls[i]] := List.take_succ_eq_append_getElem hlt
    generalize ls[i] = l at *
    clear hlt
    obtain ⟨p, hp⟩ : ∃ p, p = putL ([], 0) (ls.take i).flatten := ⟨_, rfl⟩
    rw [← hp]
    repeat (first | ((first | refine zd ?_ | refine zx ?_ | refine zk ?_ | refine zl ?_ | refine zr ?_); refine zq ?_) | refine zs ?_ | refine zh (by simp -implicitDefEqProofs (disch := (first | omega | (simp; done) | fail)) [if_pos, if_neg, wrap_i64, tmod_pos, tdiv_pos, Int.toNat_add, q, hx2, hu1]; rfl) ?_ | refine zb ?_ | refine zo ?_ | refine zt ?_ | refine zf ?_)
    refine awp_loop (fun z st => ∃ (j : Nat) (X : AHeap), z = l.length - j ∧ j ≤ l.length ∧ st.le ⟨Try.f49.ntmps, [(3, .map h.length), (9, .list (ls.map lv) t), (10, iv (ls.length : Nat)), (11, iv (i : Nat)), (15, .list (l.map Iid.av) .no), (16, iv (l.length : Nat)), (17, iv (j : Nat))], h ++ (putL p (l.take j)).o :: X⟩) l.length ?_ ?_
    rotate_left
    rintro z st ⟨j, X', rfl, hj, hle⟩
    · refine awp_le hle ?_
      clear hle
      by_cases h10 : j = l.length
      · subst h10
        have q5 : ¬ (l.length : Int) < (l.length : Int) := by omega
        rw [List.take_length]
        repeat (first | ((first | refine zd ?_ | refine zx ?_ | refine zk ?_ | refine zl ?_ | refine zr ?_); refine zq ?_) | refine zs ?_ | refine zh (by simp -implicitDefEqProofs (disch := (first | omega | (simp; done) | fail)) [if_pos, if_neg, wrap_i64, tmod_pos, tdiv_pos, Int.toNat_add, q5]; rfl) ?_ | refine zb ?_ | refine zo ?_ | refine zt ?_ | refine zf ?_)
        refine ⟨ls.length - (i + 1), by omega, i + 1, X', rfl, by omega, ?_⟩
        have e : putL p l = putL ([], 0) (ls.take (i + 1)).flatten := by rw [htk, hp]; simp [putL]
        rw [← e]
        exact st_keep' (by simp []) (by simp [])
      have hlt : j < l.length := by omega
      have q5 : (j : Int) < (l.length : Int) := by omega
      have hx3 : (l.map Iid.av)[j]? = some (Iid.av l[j]) := by simp [hlt]
      have htk2 : l.take (j + 1) = l.take j ++ [l[j]] := List.take_succ_eq_append_getElem hlt
      generalize l[j] = k at *
      clear hlt
      have hs := putL_snoc p (l.take j) k
      rw [← htk2] at hs
      generalize putL p (l.take j) = pj at *
      have hu2 : uni 3 (l.map Iid.av) = true := uni_map fun _ => rfl
      refine awp_seq ?_
      refine zh (by simp -implicitDefEqProofs (disch := (first | omega | (simp; done) | fail)) [if_pos, if_neg, wrap_i64, tmod_pos, tdiv_pos, Int.toNat_add, q5]; rfl) ?_
      refine goes_done ?_
      (try simp only [vq, if_true, reduceIte, Nat.reduceEqDiff, reduceCtorEq])
      refine awp_seq ?_
      refine awp_cond_t rfl ?_
      refine awp_skip ?_
      simp only [vq, if_true, reduceIte, Nat.reduceEqDiff, reduceCtorEq]
      refine awp_seq ?_
      refine awp_block ?_
      refine awp_seq ?_
      refine zh (by simp -implicitDefEqProofs (disch := (first | omega | (simp; done) | fail)) [if_pos, if_neg, wrap_i64, tmod_pos, tdiv_pos, Int.toNat_add, hx3, hu2, Iid.av, Iid.c]; rfl) ?_
      refine goes_done ?_
      (try simp only [vq, if_true, reduceIte, Nat.reduceEqDiff, reduceCtorEq])
      refine awp_region_at 2 rfl rfl ?_
      refine zn ?_
      refine goes_done ?_
      refine aops_put (id := h.length) (es := pj.1) (clock := pj.2) (k := k) (v := .bool true) iid_key rfl rfl rfl Try.underlying82 rfl rfl rfl (by simp [MS.o]) ?_
      refine aops_end ?_
      refine zn ?_
      refine goes_done ?_
      simp only [vq, if_true, reduceIte, Nat.reduceEqDiff, reduceCtorEq]
      repeat (first | ((first | refine zd ?_ | refine zx ?_ | refine zk ?_ | refine zl ?_ | refine zr ?_); refine zq ?_) | refine zs ?_ | refine zg ?_ | refine zb ?_ | refine zo ?_ | refine zt ?_ | refine zf ?_)
      refine ⟨l.length - (j + 1), by omega, j + 1, X' ++ [.cells [iv k.e, iv k.n, iv k.o]], rfl, by omega, ?_⟩
      rw [hs]
      exact st_keep' (by simp [MS.o]) (by simp [MS.o])
    · exact ⟨0, X, rfl, by omega, by rw [List.take_zero]; exact st_keep' (by simp [lv, putL]) (by simp [lv, putL])⟩
  · exact ⟨0, [], rfl, by omega, st_keep' (by simp [putL, MS.o, mapO]) (by simp [putL, MS.o, mapO])⟩
end Go.Proofs.Ytajgeofhlgoifaa.I

/- Sets of instances: a set's members, one by one. -/
set_option linter.unusedVariables false
set_option linter.unusedSimpArgs false
set_option maxRecDepth 20000
namespace Go.Proofs.Ytajgeofhlgoifaa.I
open Go Go.Proofs.Ytajgeofhlgoifaa.V
theorem keys_ok (id : Nat) (h : AHeap) : ACalls Try.prog 68 [.map id] h fun r h' => r = .func (.func 85) [] [.ptr h.length 0] ∧ h' = h ++ [.cells [.map id]] := by
  refine acalls_of_awp Try.func68 rfl (by simp only [List.length_cons, List.length_nil]; decide) ?_
  simp only [params_cons, params_nil]
  repeat (first | ((first | refine zd ?_ | refine zx ?_ | refine zk ?_ | refine zl ?_ | refine zr ?_); refine zq ?_) | refine zs ?_ | refine zg ?_ | refine zb ?_ | refine zo ?_ | refine zt ?_ | refine zf ?_)
  first | refine body_all (.inr rfl) (by simp -implicitDefEqProofs; rfl) (by simp -implicitDefEqProofs; rfl) (by first | (simp; done) | (simp; omega) | omega) ?_ | refine body_all (.inl rfl) (by simp -implicitDefEqProofs; rfl) (by simp -implicitDefEqProofs; rfl) (by first | (simp; done) | (simp; omega) | omega) ?_
  simp
structure WF (p : MS) : Prop where
  st : (p.1.map (·.2.2)).Nodup
  lt : ∀ e ∈ p.1, e.2.2 < p.2
  ky : (p.1.map (·.1)).Nodup
/-- What was collected. -/
def Col (X : AHeap) (b : Nat) (sv : AV) (ks : List Iid) : Prop :=
  (ks = [] ∧ sv = .list [] .full) ∨ ∃ aj c cs, sv = .arr (b + (aj + 2)) 0 ks.length c ∧ X[aj]? = some (.cells cs) ∧ cs.length = c * 3 ∧ ks.length ≤ c ∧ 0 < c ∧ cs.take (ks.length * 3) = ks.flatMap Iid.c
theorem flt_le {β : Type} {f g : β → Bool} (hfg : ∀ x, f x = true → g x = true) : ∀ l : List β, (l.filter f).length ≤ (l.filter g).length
  | [] => by simp
  | a :: l => by
    have := flt_le hfg l
    simp only [List.filter_cons]
    cases hf : f a with
    | true => simp [hfg a hf]; omega
    | false => cases g a <;> simp <;> omega
theorem flt_lt {β : Type} {f g : β → Bool} (hfg : ∀ x, f x = true → g x = true) {p : β} (hg : g p = true) (hf : f p = false) : ∀ {l : List β}, p ∈ l → (l.filter f).length < (l.filter g).length
  | [], h => by cases h
  | a :: l, h => by
    simp only [List.filter_cons]
    rcases List.mem_cons.1 h with rfl | h
    · have := flt_le hfg l
      rw [hf, hg]
      simp
      omega
    · have := flt_lt hfg hg hf h
      cases hfa : f a with
      | true => simp [hfg a hfa]; omega
      | false => cases g a <;> simp <;> omega
theorem col_all {p : MS} (hw : WF p) {ps : Ents Iid} (hps : ∀ q ∈ ps, q ∈ p.1) (hnd : (ps.map (·.2.2)).Nodup) (hall : ∀ e ∈ p.1, e.2.2 ∈ ps.map (·.2.2)) : (ps.map (·.1)).Nodup ∧ ∀ k, k ∈ ps.map (·.1) ↔ k ∈ p.1.map (·.1) := by
  have inj : ∀ {β : Type} (f : Iid × AV × Nat → β), (p.1.map f).Nodup → ∀ a ∈ p.1, ∀ b ∈ p.1, f a = f b → a = b := fun {β} f hn a ha b hb e => by
    have hp : List.Pairwise (fun a b => f a ≠ f b) p.1 := List.pairwise_map.1 hn
    refine Classical.byContradiction fun hne => ?_
    obtain ⟨i, hi, rfl⟩ := List.getElem_of_mem ha
    obtain ⟨j, hj, rfl⟩ := List.getElem_of_mem hb
    rcases Nat.lt_trichotomy i j with h | h | h
    · exact (List.pairwise_iff_getElem.1 hp i j hi hj h) e
    · subst h; exact hne rfl
    · exact (List.pairwise_iff_getElem.1 hp j i hj hi h) e.symm
  constructor
  · have h1 : List.Pairwise (fun a b => a.2.2 ≠ b.2.2) ps := List.pairwise_map.1 hnd
    refine List.pairwise_map.2 ?_
    refine h1.imp_of_mem fun {a b} ha hb hne e => hne ?_
    rw [inj (·.1) hw.ky a (hps a ha) b (hps b hb) e]
  · intro k
    constructor
    · intro h
      obtain ⟨q, hq, rfl⟩ := List.mem_map.1 h
      exact List.mem_map.2 ⟨q, hps q hq, rfl⟩
    · intro h
      obtain ⟨e, he, rfl⟩ := List.mem_map.1 h
      obtain ⟨q, hq, e2⟩ := List.mem_map.1 (hall e he)
      have := inj (·.2.2) hw.st q (hps q hq) e he e2
      subst this
      exact List.mem_map.2 ⟨q, hq, rfl⟩
theorem over_len {cs vs : List AV} {off : Nat} (h : off + vs.length ≤ cs.length) : (V.over cs off vs).length = cs.length := by
  simp [V.over]; omega
theorem col_mk {X : AHeap} {b : Nat} {ks : List Iid} {q : Iid} {a c : Nat} {cs : List AV} (hx : X[a]? = some (.cells cs)) (h1 : cs.length = c * 3) (h2 : ks.length + 1 ≤ c) (h3 : cs.take ((ks.length + 1) * 3) = ks.flatMap Iid.c ++ q.c) :
    Col X b (.arr (b + (a + 2)) 0 (ks.length + 1) c) (ks ++ [q]) := .inr ⟨a, c, cs, by simp, hx, h1, by simpa using h2, by omega, by simpa using h3⟩
theorem appseq_ok (p : MS) (hw : WF p) (id mb : Nat) (hl : p.1.length ≤ 100000) (h : AHeap) (hm : h[mb]? = some (.cells [.map id])) (ho : h[id]? = some p.o) :
    ACalls Try.prog 82 [.list [] .full, .func (.func 85) [] [.ptr mb 0]] h fun r h' => ∃ ks sv o X, r = sv.strip ∧ h' = h ++ (.cells [sv] :: o :: X) ∧ Col X h.length sv ks ∧ ks.Nodup ∧ ∀ k, k ∈ ks ↔ k ∈ p.1.map (·.1) := by
  have hml : ∀ y, (h ++ y)[mb]? = some (.cells [.map id]) := fun y => by rw [List.getElem?_append_left (List.getElem?_eq_some_iff.1 hm).1]; exact hm
  have hol : ∀ y, (h ++ y)[id]? = some p.o := fun y => by rw [List.getElem?_append_left (List.getElem?_eq_some_iff.1 ho).1]; exact ho
  clear hm ho
  refine acalls_of_awp Try.func82 rfl (by simp only [List.length_cons, List.length_nil]; decide) ?_
  simp only [params_cons, params_nil]
  repeat (first | ((first | refine zd ?_ | refine zx ?_ | refine zk ?_ | refine zl ?_ | refine zr ?_); refine zq ?_) | refine zs ?_ | refine zg ?_ | refine zb ?_ | refine zo ?_ | refine zt ?_ | refine zf ?_)
  refine awp_rangeFunc rfl (by simp -implicitDefEqProofs; rfl) (callable_of Try.func85) (fun lp => acallsE_of_awp rfl Try.func85 rfl (by simp only [List.length_cons, List.length_nil]; decide) ?_)
  simp only [params_cons, params_nil]
  have hol2 : ∀ y, (h ++ y)[id]? = some (.map (p.1.map fun q => (Iid.av q.1, q.2.1, q.2.2)) p.2) := hol
  refine awp_seq ?_
  refine awp_region_at 1 rfl rfl ?_
  refine run_start (goes_eq (by simp -implicitDefEqProofs (disch := (first | omega | (simp; done) | fail)) [if_pos, if_neg, wrap_i64, tmod_pos, tdiv_pos, Int.toNat_add, hml]; rfl) ?_)
  refine goes_done ?_
  refine aops_range (id := id) (clock := p.2) rfl rfl Try.underlying82 rfl (hol2 _) ?_
  refine aops_end ?_
  refine zn ?_
  refine goes_done ?_
  simp only [vq, if_true, reduceIte, Nat.reduceEqDiff, reduceCtorEq]
  refine awp_block ?_
  refine awp_loop (fun z st => ∃ (ps : Ents Iid) (sv : AV) (X : AHeap), z = (p.1.filter fun q => !(ps.map (·.2.2)).contains q.2.2).length ∧ ps.length + z ≤ p.1.length ∧ (∀ q ∈ ps, q ∈ p.1) ∧ (ps.map (·.2.2)).Nodup ∧ Col X h.length sv (ps.map (·.1)) ∧ st.le ⟨Try.f85.ntmps, [(0, .func (.yield lp) [] []), (5, .ptr (h.length + 1) 0)], h ++ (.cells [sv] :: .iter id p.2 p.2 (ps.map (·.2.2)) :: X)⟩) (p.1.filter fun q => !(([] : Ents Iid).map (·.2.2)).contains q.2.2).length ?_ ?_
  rotate_left
  rintro z st ⟨ps, sv, X, rfl, hsz, hps, hnd, hcol, hle⟩
  · refine awp_le hle ?_
    clear hle
    refine awp_seq ?_
    refine awp_region_at 0 rfl rfl ?_
    refine zn ?_
    refine goes_done ?_
    refine aops_next (id := id) (rid := h.length + 1) (clock := p.2) (since := p.2) (last := p.2) (seen := ps.map (·.2.2)) (es := p.1.map fun q => (Iid.av q.1, q.2.1, q.2.2)) rfl rfl rfl (by simp) (hol2 _) (fun q hq => ?_) (Nat.le_refl _) (fun hall => ?_) (fun p0 hp0 hns => ?_)
    · obtain ⟨e, he, rfl⟩ := List.mem_map.1 hq
      exact hw.lt e he
    · refine aops_end ?_
      refine zn ?_
      refine goes_done ?_
      simp only [vq, if_true, reduceIte, Nat.reduceEqDiff, reduceCtorEq]
      repeat (first | ((first | refine zd ?_ | refine zx ?_ | refine zk ?_ | refine zl ?_ | refine zr ?_); refine zq ?_) | refine zs ?_ | refine zg ?_ | refine zb ?_ | refine zo ?_ | refine zt ?_ | refine zf ?_)
      first | refine body_all (.inr rfl) (by simp -implicitDefEqProofs; rfl) (by simp -implicitDefEqProofs; rfl) (by first | (simp; done) | (simp; omega) | omega) ?_ | refine body_all (.inl rfl) (by simp -implicitDefEqProofs; rfl) (by simp -implicitDefEqProofs; rfl) (by first | (simp; done) | (simp; omega) | omega) ?_
      repeat (first | ((first | refine zd ?_ | refine zx ?_ | refine zk ?_ | refine zl ?_ | refine zr ?_); refine zq ?_) | refine zs ?_ | refine zg ?_ | refine zb ?_ | refine zo ?_ | refine zt ?_ | refine zf ?_)
      refine body_all (.inr rfl) (by simp -implicitDefEqProofs; rfl) rfl (by simp) ?_
      refine ⟨ps.map (·.1), sv, _, X, rfl, rfl, hcol, ?_⟩
      exact col_all hw hps hnd fun e he => hall _ (List.mem_map.2 ⟨e, he, rfl⟩)
    · obtain ⟨q, hq, rfl⟩ := List.mem_map.1 hp0
      refine aops_end ?_
      refine zn ?_
      refine goes_done ?_
      simp only [vq, if_true, reduceIte, Nat.reduceEqDiff, reduceCtorEq]
      refine awp_seq ?_
      refine awp_cond_t rfl ?_
      refine awp_skip ?_
      simp only [vq, if_true, reduceIte, Nat.reduceEqDiff, reduceCtorEq]
      refine awp_block ?_
      refine awp_seq ?_
      refine awp_region_at 0 rfl rfl ?_
      refine zn ?_
      refine goes_done ?_
      refine aops_entry (id := id) (rid := h.length + 1) (clock := p.2) (since := p.2) (seen := ps.map (·.2.2)) (es := p.1.map fun q => (Iid.av q.1, q.2.1, q.2.2)) (p := (Iid.av q.1, q.2.1, q.2.2)) rfl rfl rfl (by simp) (hol2 _) hp0 (by rw [List.map_map]; exact hw.st) ?_
      refine aops_end ?_
      simp only [Iid.av, Iid.c]
      refine zn ?_
      refine goes_done ?_
      simp only [vq, if_true, reduceIte, Nat.reduceEqDiff, reduceCtorEq]
      repeat (first | ((first | refine zd ?_ | refine zx ?_ | refine zk ?_ | refine zl ?_ | refine zr ?_); refine zq ?_) | refine zs ?_ | refine zg ?_ | refine zb ?_ | refine zo ?_ | refine zt ?_ | refine zf ?_)
      refine goes_yield ⟨rfl, rfl, ?_⟩
      simp only [putAll_cons, putAll_nil]
      refine zg ?_
      refine goes_done ?_
      (try simp only [vq, if_true, reduceIte, Nat.reduceEqDiff, reduceCtorEq])
      refine awp_block ?_
      have hns2 : q.2.2 ∉ ps.map (·.2.2) := hns
      have hlt := flt_lt (f := fun e : Iid × AV × Nat => !((ps ++ [q]).map (·.2.2)).contains e.2.2) (g := fun e : Iid × AV × Nat => !(ps.map (·.2.2)).contains e.2.2) (p := q) (fun x hx => by simp at hx ⊢; exact fun a b hab => hx.1 a b hab) (by simpa using hns2) (by simp) hq
      have hpl : ps.length ≤ 100000 := by omega
      have hps2 : ∀ e ∈ ps ++ [q], e ∈ p.1 := fun e he => by
        rcases List.mem_append.1 he with h | h
        · exact hps e h
        · simp at h; rw [h]; exact hq
      have hnd2 : ((ps ++ [q]).map (·.2.2)).Nodup := by
        rw [List.map_append, List.nodup_append]
        refine ⟨hnd, by simp, fun a ha b hb => ?_⟩
        simp at hb
        rw [hb]
        exact fun e => hns2 (e ▸ ha)
      have hst : ps.map (·.2.2) ++ [q.2.2] = (ps ++ [q]).map (·.2.2) := by simp
      rcases hcol with ⟨hk0, rfl⟩ | ⟨aj, c, cs, rfl, haj, hcl, hkc, hc0, htk⟩
      · have hp0 : ps = [] := by simpa using hk0
        refine awp_region_at 3 rfl rfl ?_
        refine zn ?_
        refine goes_done ?_
        refine aops_append_k (k := 3) (by_ := 24) (m := 0) (c := 0) (cs := []) (zc := [iv 0, iv 0, iv 0]) (z := .agg [iv q.1.e, iv q.1.n, iv q.1.o]) rfl rfl (by simp; rfl) (by simp) (by simp) (by simp [iv]) rfl (by decide) rfl (by simp) .nil (by simp [iv]) (by omega) (by omega) ?_
        refine ⟨fun hlt => absurd hlt (by omega), fun _ c' u hc' hu => ?_⟩
        refine aops_end ?_
        refine zn ?_
        refine goes_done ?_
        (try simp only [vq, if_true, reduceIte, Nat.reduceEqDiff, reduceCtorEq])
        refine zn ?_
        refine goes_done ?_
        (try simp only [vq, if_true, reduceIte, Nat.reduceEqDiff, reduceCtorEq])
        repeat (first | ((first | refine zd ?_ | refine zx ?_ | refine zk ?_ | refine zl ?_ | refine zr ?_); refine zq ?_) | refine zs ?_ | refine zg ?_ | refine zb ?_ | refine zo ?_ | refine zt ?_ | refine zf ?_)
        refine ⟨_, hlt, ps ++ [q], .arr (h.length + (X.length + 2 + 2)) 0 1 c', X ++ [.cells [iv q.1.e, iv q.1.n, iv q.1.o], .cells [iv q.1.e, iv q.1.n, iv q.1.o], .cells (iv q.1.e :: iv q.1.n :: iv q.1.o :: u)], rfl, by simp only [List.length_append, List.length_singleton]; omega, hps2, hnd2, ?_, ?_⟩
        · subst hp0
          exact col_mk (ks := []) (q := q.1) (a := X.length + 2) (c := c') (cs := iv q.1.e :: iv q.1.n :: iv q.1.o :: u) (by simp) (by simp [hu]; omega) (by simpa using hc') (by simp [Iid.c])
        · rw [← hst]
          exact st_keep' (by simp []) (by simp [])
      · have hnk : (ps.map (·.1)).length = ps.length := by simp
        rw [hnk] at hkc htk ⊢
        have hxl : aj < X.length := (List.getElem?_eq_some_iff.1 haj).1
        have hajr : ∀ y, (X ++ y)[aj]? = some (.cells cs) := fun y => by rw [List.getElem?_append_left hxl]; exact haj
        have hajs : ∀ y v, (X ++ y).set aj v = X.set aj v ++ y := fun y v => List.set_append_left _ _ hxl
        clear hxl
        refine awp_region_at 3 rfl rfl ?_
        refine zn ?_
        refine goes_done ?_
        refine aops_append_k (k := 3) (by_ := 24) (m := ps.length) (c := c) (cs := cs) (zc := [iv 0, iv 0, iv 0]) (z := .agg [iv q.1.e, iv q.1.n, iv q.1.o]) rfl rfl (by simp; rfl) (by simp) (by simp) (by simp [iv]) rfl (by decide) rfl (by simp) (.arr _ _ _ _ (by simp [hajr]) hcl hkc hc0) (by simp [iv]) (by omega) (by omega) ?_
        have hov : ∀ n, n * 3 + 3 ≤ cs.length → (V.over cs (n * 3) [iv q.1.e, iv q.1.n, iv q.1.o]).take ((n + 1) * 3) = cs.take (n * 3) ++ [iv q.1.e, iv q.1.n, iv q.1.o] := fun n hn => by
          unfold V.over
          rw [List.take_append_of_le_length (by simp; omega), List.take_of_length_le (by simp; omega)]
        refine ⟨fun hlt2 id' hx => ?_, fun hmc c' u hc' hu => ?_⟩
        · injection hx with hx
          subst hx
          refine aops_end ?_
          refine run_start (goes_eq (by simp -implicitDefEqProofs (disch := (first | omega | (simp; done) | fail)) [if_pos, if_neg, wrap_i64, tmod_pos, tdiv_pos, Int.toNat_add, hajs]; rfl) ?_)
          refine goes_done ?_
          (try simp only [vq, if_true, reduceIte, Nat.reduceEqDiff, reduceCtorEq])
          refine zn ?_
          refine goes_done ?_
          (try simp only [vq, if_true, reduceIte, Nat.reduceEqDiff, reduceCtorEq])
          repeat (first | ((first | refine zd ?_ | refine zx ?_ | refine zk ?_ | refine zl ?_ | refine zr ?_); refine zq ?_) | refine zs ?_ | refine zg ?_ | refine zb ?_ | refine zo ?_ | refine zt ?_ | refine zf ?_)
          refine ⟨_, hlt, ps ++ [q], .arr (h.length + (aj + 2)) 0 (ps.length + 1) c, X.set aj (.cells (V.over cs (ps.length * 3) [iv q.1.e, iv q.1.n, iv q.1.o])) ++ [.cells [iv q.1.e, iv q.1.n, iv q.1.o], .cells [iv q.1.e, iv q.1.n, iv q.1.o]], rfl, by simp only [List.length_append, List.length_singleton]; omega, hps2, hnd2, ?_, ?_⟩
          · have hxl : aj < X.length := (List.getElem?_eq_some_iff.1 haj).1
            have := col_mk (X := X.set aj (.cells (V.over cs (ps.length * 3) [iv q.1.e, iv q.1.n, iv q.1.o])) ++ [.cells [iv q.1.e, iv q.1.n, iv q.1.o], .cells [iv q.1.e, iv q.1.n, iv q.1.o]]) (b := h.length) (ks := ps.map (·.1)) (q := q.1) (a := aj) (c := c) (cs := V.over cs (ps.length * 3) [iv q.1.e, iv q.1.n, iv q.1.o]) (by rw [List.getElem?_append_left (by simpa using hxl)]; simp [hxl]) (by rw [over_len (by simp; omega)]; exact hcl) (by rw [hnk]; omega) (by
              rw [hnk, hov _ (by omega), htk]
              rfl)
            rw [hnk] at this
            simpa using this
          · rw [← hst]
            exact st_keep' (by simp []) (by simp [])
        · subst hmc
          refine aops_end ?_
          refine zn ?_
          refine goes_done ?_
          (try simp only [vq, if_true, reduceIte, Nat.reduceEqDiff, reduceCtorEq])
          refine zn ?_
          refine goes_done ?_
          (try simp only [vq, if_true, reduceIte, Nat.reduceEqDiff, reduceCtorEq])
          repeat (first | ((first | refine zd ?_ | refine zx ?_ | refine zk ?_ | refine zl ?_ | refine zr ?_); refine zq ?_) | refine zs ?_ | refine zg ?_ | refine zb ?_ | refine zo ?_ | refine zt ?_ | refine zf ?_)
          refine ⟨_, hlt, ps ++ [q], .arr (h.length + (X.length + 2 + 2)) 0 (ps.length + 1) c', X ++ [.cells [iv q.1.e, iv q.1.n, iv q.1.o], .cells [iv q.1.e, iv q.1.n, iv q.1.o], .cells (cs ++ [iv q.1.e, iv q.1.n, iv q.1.o] ++ u)], rfl, by simp only [List.length_append, List.length_singleton]; omega, hps2, hnd2, ?_, ?_⟩
          · have := col_mk (X := X ++ [.cells [iv q.1.e, iv q.1.n, iv q.1.o], .cells [iv q.1.e, iv q.1.n, iv q.1.o], .cells (cs ++ [iv q.1.e, iv q.1.n, iv q.1.o] ++ u)]) (b := h.length) (ks := ps.map (·.1)) (q := q.1) (a := X.length + 2) (c := c') (cs := cs ++ [iv q.1.e, iv q.1.n, iv q.1.o] ++ u) (by simp) (by simp [hu, hcl]; omega) (by simpa using hc') (by
              rw [hnk, ← htk, List.take_of_length_le (l := cs) (by omega), List.take_append_of_le_length (by simp; omega), List.take_of_length_le (by simp; omega)]
              rfl)
            rw [hnk] at this
            simpa using this
          · rw [← hst]
            exact st_keep' (by simp []) (by simp [])
  · exact ⟨[], .list [] .full, [], rfl, by have := List.length_filter_le (fun q : Iid × AV × Nat => !(([] : Ents Iid).map (·.2.2)).contains q.2.2) p.1; simp only [List.length_nil, Nat.zero_add]; exact this, (fun q hq => by cases hq), by simp, .inl ⟨rfl, rfl⟩, st_keep' (by simp []) (by simp [])⟩
end Go.Proofs.Ytajgeofhlgoifaa.I
