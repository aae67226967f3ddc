import Derived.Test.YtdncoobpdllpkaaGreatV25
import Derived.Test.YtdncoobpdllpkaaGreatVT
import Derived.Test.YtdncoobpdllpkaaGreatV27
/- Lists of numbers: what the library's functions answer. -/
set_option linter.unusedVariables false
set_option linter.unusedSimpArgs false
set_option maxRecDepth 20000
namespace Go.Proofs.YtdncoobpdllpkaaGreat.C
open Go Go.Proofs.YtdncoobpdllpkaaGreat.V
attribute [-simp] List.map_take List.map_drop
attribute [local simp] take_map drop_map List.take_take
abbrev iv (n : Int) : AV := .int .i64 n
theorem iv_uni (l : List Int) : uni 1 (l.map iv) = true := uni_map fun _ => rfl
theorem iv_ones (l : List Int) : ones (l.map iv) = true := by
  unfold ones; rw [List.all_eq_true]; intro y hy
  obtain ⟨b, _, rfl⟩ := List.mem_map.1 hy
  rfl
theorem iv_onesL (l : List Int) : onesL (l.map iv) = true := onesL_map fun _ => rfl
theorem iv_strip : AV.strip ∘ iv = iv := s_comp fun x => by simp
attribute [local simp] iv_uni iv_ones iv_onesL iv_strip
theorem equal_ok (a b : List Int) (ta tb : Tok) (hl : a.length ≤ 1000000) (hl2 : b.length ≤ 1000000) (h : AHeap) : ACalls Tryz.prog 51 [.list (a.map iv) ta, .list (b.map iv) tb] h fun r h' => r = .bool (decide (a = b)) ∧ h' = h := by
  refine acalls_of_awp Tryz.func51 rfl (by simp only [List.length_cons, List.length_nil]; decide) ?_
  simp only [params_cons, params_nil]
  by_cases h1 : a.length = b.length
  · have e1 : ((a.length : Int) != (b.length : Int)) = false := by simp; omega
    repeat (first | ((first | refine zd ?_ | refine zx ?_ | refine zk ?_ | refine zl ?_ | refine zr ?_); refine zq ?_) | refine zs ?_ | refine zh (by simp -implicitDefEqProofs (disch := (first | omega | (simp; done) | fail)) [if_pos, if_neg, wrap_i64, tmod_pos, tdiv_pos, Int.toNat_add, e1]; rfl) ?_ | refine zb ?_ | refine zo ?_ | refine zt ?_ | refine zf ?_)
    refine awp_loop (fun k st => ∃ i : Nat, k = a.length - i ∧ i ≤ a.length ∧ (∀ j, j < i → a[j]? = b[j]?) ∧ st.le ⟨Tryz.f51.ntmps, [(0, .list (a.map iv) ta), (1, .list (b.map iv) tb), (12, .int .i64 a.length), (13, .int .i64 i)], h⟩) a.length ?_ ?_
    rotate_left
    · rintro k st ⟨i, rfl, hi, he, hle⟩
      refine awp_le hle ?_
      repeat (first | ((first | refine zd ?_ | refine zx ?_ | refine zk ?_ | refine zl ?_ | refine zr ?_); refine zq ?_) | refine zs ?_ | refine zg ?_ | refine zb ?_ | refine zo ?_ | refine zt ?_ | refine zf ?_)
      refine awp_cond rfl (fun h2 => ?_) (fun h2 => ?_)
      · simp at h2
        obtain ⟨x, hx⟩ : ∃ x, a[i]? = some x := ⟨a[i]'(by omega), by rw [List.getElem?_eq_getElem]⟩
        obtain ⟨y, hy⟩ : ∃ y, b[i]? = some y := ⟨b[i]'(by omega), by rw [List.getElem?_eq_getElem]⟩
        have hx2 : (a.map iv)[i]? = some (.int .i64 x) := by simp [hx]
        have hy2 : (b.map iv)[i]? = some (.int .i64 y) := by simp [hy]
        have hi1 : i + 1 ≤ a.length := by omega
        have hi0 : (i : Int) + 1 ≤ 1000001 := by omega
        have h21 : a.length - (i + 1) < a.length - i := by omega
        clear h2
        repeat (first | ((first | refine zd ?_ | refine zx ?_ | refine zk ?_ | refine zl ?_ | refine zr ?_); refine zq ?_) | refine zs ?_ | refine zh (by simp -implicitDefEqProofs (disch := (first | omega | (simp; done) | fail)) [if_pos, if_neg, wrap_i64, tmod_pos, tdiv_pos, Int.toNat_add, hx2]; rfl) ?_ | refine zb ?_ | refine zo ?_ | refine zt ?_ | refine zf ?_)
        by_cases hxy : x = y
        · subst hxy
          refine awp_draw (.q 0 (.q 1 (.q 2 (.q 3 (.q 4 (.q 5 (.q 6 (.q 7 (.q 8 (.done)))))))))) (by kernel_rfl) (by kernel_rfl) (tree_start (goesT_eq (by simp -implicitDefEqProofs (disch := (first | omega | (simp; done) | fail)) [if_pos, if_neg, wrap_i64, tmod_pos, tdiv_pos, Int.toNat_add, hx2, hy2]; rfl) ?_))
          refine goesT_done ?_
          (try simp only [vq, if_true, reduceIte, Nat.reduceEqDiff, reduceCtorEq])
          repeat (first | ((first | refine zd ?_ | refine zx ?_ | refine zk ?_ | refine zl ?_ | refine zr ?_); refine zq ?_) | refine zs ?_ | refine zg ?_ | refine zb ?_ | refine zo ?_ | refine zt ?_ | refine zf ?_)
          exact ⟨a.length - (i + 1), h21, i + 1, rfl, hi1, fun j hj => by
            by_cases e : j = i
            · subst e; rw [hx, hy]
            · exact he j (by omega), st_keep' (by simp []) (by simp [])⟩
        · have e3 : (x == y) = false := by simpa using hxy
          have e4 : (x != y) = true := by simpa using hxy
          have hab : a ≠ b := fun e => hxy (by subst e; rw [hx] at hy; injection hy)
          refine awp_draw (.q 0 (.q 1 (.q 2 (.q 3 (.q 4 (.q 5 (.q 6 (.q 7 (.q 8 (.done)))))))))) (by kernel_rfl) (by kernel_rfl) (tree_start (goesT_eq (by simp -implicitDefEqProofs (disch := (first | omega | (simp; done) | fail)) [if_pos, if_neg, wrap_i64, tmod_pos, tdiv_pos, Int.toNat_add, hx2, hy2, e3, e4]; rfl) ?_))
          refine goesT_done ?_
          (try simp only [vq, if_true, reduceIte, Nat.reduceEqDiff, reduceCtorEq])
          repeat (first | ((first | refine zd ?_ | refine zx ?_ | refine zk ?_ | refine zl ?_ | refine zr ?_); refine zq ?_) | refine zs ?_ | refine zg ?_ | refine zb ?_ | refine zo ?_ | refine zt ?_ | refine zf ?_)
          first | refine zY (.inr rfl) ?_ | refine zY (.inl rfl) ?_
          simp [hab]
      · simp at h2
        have hab : a = b := by
          apply List.ext_getElem?
          intro j
          by_cases hj : j < i
          · exact he j hj
          · rw [List.getElem?_eq_none (by omega), List.getElem?_eq_none (by omega)]
        repeat (first | ((first | refine zd ?_ | refine zx ?_ | refine zk ?_ | refine zl ?_ | refine zr ?_); refine zq ?_) | refine zs ?_ | refine zg ?_ | refine zb ?_ | refine zo ?_ | refine zt ?_ | refine zf ?_)
        first | refine zY (.inr rfl) ?_ | refine zY (.inl rfl) ?_
        simp [hab]
    · exact ⟨0, rfl, by omega, fun j hj => by omega, st_keep' (by simp []) (by simp [])⟩
  · have e1 : ((a.length : Int) != (b.length : Int)) = true := by simp; omega
    have e2 : a ≠ b := fun e => h1 (by rw [e])
    repeat (first | ((first | refine zd ?_ | refine zx ?_ | refine zk ?_ | refine zl ?_ | refine zr ?_); refine zq ?_) | refine zs ?_ | refine zh (by simp -implicitDefEqProofs (disch := (first | omega | (simp; done) | fail)) [if_pos, if_neg, wrap_i64, tmod_pos, tdiv_pos, Int.toNat_add, e1]; rfl) ?_ | refine zb ?_ | refine zo ?_ | refine zt ?_ | refine zf ?_)
    first | refine zY (.inr rfl) ?_ | refine zY (.inl rfl) ?_
    simp [e2]
end Go.Proofs.YtdncoobpdllpkaaGreat.C

/- Lists of numbers: Clone, BinarySearch. -/
set_option linter.unusedVariables false
set_option linter.unusedSimpArgs false
set_option maxRecDepth 20000
namespace Go.Proofs.YtdncoobpdllpkaaGreat.C
open Go Go.Proofs.YtdncoobpdllpkaaGreat.V
attribute [-simp] List.map_take List.map_drop
attribute [local simp] take_map drop_map List.take_take iv_uni iv_ones iv_onesL iv_strip
theorem nan_ok (x : Int) (h : AHeap) : ACalls Tryz.prog 101 [.int .i64 x] h fun r h' => r = .bool false ∧ h' = h := by
  refine acalls_of_awp Tryz.func101 rfl (by simp only [List.length_cons, List.length_nil]; decide) ?_
  simp only [params_cons, params_nil]
  repeat (first | ((first | refine zd ?_ | refine zx ?_ | refine zk ?_ | refine zl ?_ | refine zr ?_); refine zq ?_) | refine zs ?_ | refine zg ?_ | refine zb ?_ | refine zo ?_ | refine zt ?_ | refine zf ?_)
  first | refine zY (.inr rfl) ?_ | refine zY (.inl rfl) ?_
  simp
end Go.Proofs.YtdncoobpdllpkaaGreat.C

/- Configurations: small functions. -/
set_option linter.unusedVariables false
set_option linter.unusedSimpArgs false
set_option maxRecDepth 20000
namespace Go.Proofs.YtdncoobpdllpkaaGreat.C
open Go Go.Proofs.YtdncoobpdllpkaaGreat.V
attribute [-simp] List.map_take List.map_drop
attribute [local simp] take_map drop_map List.take_take iv_uni iv_ones iv_onesL iv_strip
def cv (e : Int) (l : List Int) : AV := .agg [.int .i64 e, .list (l.map iv) .no]
def nodeB (n : Int) : Bool := decide (0 ≤ n) && decide (n ≤ 31)
theorem node_ok (n : Int) (h : AHeap) : ACalls Tryz.prog 58 [.int .i64 n] h fun r h' => r = .bool (nodeB n) ∧ h' = h := by
  refine acalls_of_awp Tryz.func58 rfl (by simp only [List.length_cons, List.length_nil]; decide) ?_
  simp only [params_cons, params_nil]
  by_cases h1 : 0 ≤ n
  · repeat (first | ((first | refine zd ?_ | refine zx ?_ | refine zk ?_ | refine zl ?_ | refine zr ?_); refine zq ?_) | refine zs ?_ | refine zh (by simp -implicitDefEqProofs (disch := (first | omega | (simp; done) | fail)) [if_pos, if_neg, wrap_i64, tmod_pos, tdiv_pos, Int.toNat_add, h1]; rfl) ?_ | refine zb ?_ | refine zo ?_ | refine zt ?_ | refine zf ?_)
    first | refine zY (.inr rfl) ?_ | refine zY (.inl rfl) ?_
    simp [nodeB, h1]
  · repeat (first | ((first | refine zd ?_ | refine zx ?_ | refine zk ?_ | refine zl ?_ | refine zr ?_); refine zq ?_) | refine zs ?_ | refine zh (by simp -implicitDefEqProofs (disch := (first | omega | (simp; done) | fail)) [if_pos, if_neg, wrap_i64, tmod_pos, tdiv_pos, Int.toNat_add, h1]; rfl) ?_ | refine zb ?_ | refine zo ?_ | refine zt ?_ | refine zf ?_)
    first | refine zY (.inr rfl) ?_ | refine zY (.inl rfl) ?_
    simp [nodeB, h1]
theorem same_ok (e f : Int) (a b : List Int) (hl : a.length ≤ 1000000) (hl2 : b.length ≤ 1000000) (h : AHeap) : ACalls Tryz.prog 24 [cv e a, cv f b] h fun r h' => r = .bool (decide (e = f ∧ a = b)) ∧ h' = h := by
  unfold cv
  refine acalls_of_awp Tryz.func24 rfl (by simp only [List.length_cons, List.length_nil]; decide) ?_
  simp only [params_cons, params_nil]
  by_cases he : e = f
  · subst he
    repeat (first | ((first | refine zd ?_ | refine zx ?_ | refine zk ?_ | refine zl ?_ | refine zr ?_); refine zq ?_) | refine zs ?_ | refine zg ?_ | refine zb ?_ | refine zo ?_ | refine zt ?_ | refine zf ?_)
    refine zp (callable_of Tryz.func51) _ (equal_ok a b .no .no hl hl2 _) ?_
    rintro _ h1 ⟨rfl, rfl⟩
    refine ze ?_
    repeat (first | ((first | refine zd ?_ | refine zx ?_ | refine zk ?_ | refine zl ?_ | refine zr ?_); refine zq ?_) | refine zs ?_ | refine zg ?_ | refine zb ?_ | refine zo ?_ | refine zt ?_ | refine zf ?_)
    first | refine zy (.inr rfl) ?_ | refine zy (.inl rfl) ?_
    simp
  · have e1 : (e == f) = false := by simpa using he
    repeat (first | ((first | refine zd ?_ | refine zx ?_ | refine zk ?_ | refine zl ?_ | refine zr ?_); refine zq ?_) | refine zs ?_ | refine zh (by simp -implicitDefEqProofs (disch := (first | omega | (simp; done) | fail)) [if_pos, if_neg, wrap_i64, tmod_pos, tdiv_pos, Int.toNat_add, e1]; rfl) ?_ | refine zb ?_ | refine zo ?_ | refine zt ?_ | refine zf ?_)
    first | refine zy (.inr rfl) ?_ | refine zy (.inl rfl) ?_
    simp [he]
/-- Numbers of nodes that rise. -/
def rise (last : Int) : List Int → Bool
  | [] => true
  | x :: r => nodeB x && decide (last < x) && rise x r
def validB (e : Int) (l : List Int) : Bool := decide (0 ≤ e) && decide (e ≤ 1048576) && decide (1 ≤ l.length) && decide (l.length ≤ 7) && rise (-1) l
theorem valid_ok (e : Int) (l : List Int) (hl : l.length ≤ 1000000) (h : AHeap) : ACalls Tryz.prog 36 [cv e l] h fun r h' => r = .bool (validB e l) ∧ h' = h := by
  unfold cv
  refine acalls_of_awp Tryz.func36 rfl (by simp only [List.length_cons, List.length_nil]; decide) ?_
  simp only [params_cons, params_nil]
  by_cases h1 : e < 0
  · repeat (first | ((first | refine zd ?_ | refine zx ?_ | refine zk ?_ | refine zl ?_ | refine zr ?_); refine zq ?_) | refine zs ?_ | refine zh (by simp -implicitDefEqProofs (disch := (first | omega | (simp; done) | fail)) [if_pos, if_neg, wrap_i64, tmod_pos, tdiv_pos, Int.toNat_add, h1]; rfl) ?_ | refine zb ?_ | refine zo ?_ | refine zt ?_ | refine zf ?_)
    first | refine zy (.inr rfl) ?_ | refine zy (.inl rfl) ?_
    simp [validB]; omega
  by_cases h2 : (1048576 : Int) < e
  · repeat (first | ((first | refine zd ?_ | refine zx ?_ | refine zk ?_ | refine zl ?_ | refine zr ?_); refine zq ?_) | refine zs ?_ | refine zh (by simp -implicitDefEqProofs (disch := (first | omega | (simp; done) | fail)) [if_pos, if_neg, wrap_i64, tmod_pos, tdiv_pos, Int.toNat_add, h1, h2]; rfl) ?_ | refine zb ?_ | refine zo ?_ | refine zt ?_ | refine zf ?_)
    first | refine zy (.inr rfl) ?_ | refine zy (.inl rfl) ?_
    simp [validB]; omega
  by_cases h3 : (l.length : Int) < 1
  · repeat (first | ((first | refine zd ?_ | refine zx ?_ | refine zk ?_ | refine zl ?_ | refine zr ?_); refine zq ?_) | refine zs ?_ | refine zh (by simp -implicitDefEqProofs (disch := (first | omega | (simp; done) | fail)) [if_pos, if_neg, wrap_i64, tmod_pos, tdiv_pos, Int.toNat_add, h1, h2, h3]; rfl) ?_ | refine zb ?_ | refine zo ?_ | refine zt ?_ | refine zf ?_)
    first | refine zy (.inr rfl) ?_ | refine zy (.inl rfl) ?_
    simp [validB]; omega
  by_cases h4 : (7 : Int) < (l.length : Int)
  · repeat (first | ((first | refine zd ?_ | refine zx ?_ | refine zk ?_ | refine zl ?_ | refine zr ?_); refine zq ?_) | refine zs ?_ | refine zh (by simp -implicitDefEqProofs (disch := (first | omega | (simp; done) | fail)) [if_pos, if_neg, wrap_i64, tmod_pos, tdiv_pos, Int.toNat_add, h1, h2, h3, h4]; rfl) ?_ | refine zb ?_ | refine zo ?_ | refine zt ?_ | refine zf ?_)
    first | refine zy (.inr rfl) ?_ | refine zy (.inl rfl) ?_
    simp [validB]; omega
  have e5 : validB e l = rise (-1) l := by
    have a1 : 0 ≤ e := by omega
    have a2 : e ≤ 1048576 := by omega
    have a3 : 1 ≤ l.length := by omega
    have a4 : l.length ≤ 7 := by omega
    simp [validB, a1, a2, a3, a4]
  rw [e5]
  repeat (first | ((first | refine zd ?_ | refine zx ?_ | refine zk ?_ | refine zl ?_ | refine zr ?_); refine zq ?_) | refine zs ?_ | refine zh (by simp -implicitDefEqProofs (disch := (first | omega | (simp; done) | fail)) [if_pos, if_neg, wrap_i64, tmod_pos, tdiv_pos, Int.toNat_add, h1, h2, h3, h4]; rfl) ?_ | refine zb ?_ | refine zo ?_ | refine zt ?_ | refine zf ?_)
  refine awp_loop (fun k st => ∃ (i : Nat) (last : Int), k = l.length - i ∧ i ≤ l.length ∧ rise (-1) l = rise last (l.drop i) ∧ st.le ⟨Tryz.f36.ntmps, [(3, .int .i64 last), (27, .list (l.map iv) .no), (28, .int .i64 l.length), (29, .int .i64 i)], h ++ [.cells [.int .i64 e, .list (l.map iv) .no]]⟩) l.length ?_ ?_
  rotate_left
  · rintro k st ⟨i, last, rfl, hi, hr, hle⟩
    refine awp_le hle ?_
    repeat (first | ((first | refine zd ?_ | refine zx ?_ | refine zk ?_ | refine zl ?_ | refine zr ?_); refine zq ?_) | refine zs ?_ | refine zg ?_ | refine zb ?_ | refine zo ?_ | refine zt ?_ | refine zf ?_)
    refine awp_cond rfl (fun h5 => ?_) (fun h5 => ?_)
    · simp at h5
      obtain ⟨x, hx⟩ : ∃ x, l[i]? = some x := ⟨l[i]'(by omega), by rw [List.getElem?_eq_getElem]⟩
      have hd : l.drop i = x :: l.drop (i + 1) := by
        obtain ⟨hi, rfl⟩ := List.getElem?_eq_some_iff.1 hx
        exact List.drop_eq_getElem_cons hi
      rw [hd, rise] at hr
      have hx2 : (l.map iv)[i]? = some (.int .i64 x) := by simp [hx]
      have hi1 : i + 1 ≤ l.length := by omega
      have h21 : l.length - (i + 1) < l.length - i := by omega
      have hi0 : (i : Int) + 1 ≤ 1000001 := by omega
      clear h5 hle
      repeat (first | ((first | refine zd ?_ | refine zx ?_ | refine zk ?_ | refine zl ?_ | refine zr ?_); refine zq ?_) | refine zs ?_ | refine zh (by simp -implicitDefEqProofs (disch := (first | omega | (simp; done) | fail)) [if_pos, if_neg, wrap_i64, tmod_pos, tdiv_pos, Int.toNat_add, hx2, hx]; rfl) ?_ | refine zb ?_ | refine zo ?_ | refine zt ?_ | refine zf ?_)
      refine zp (callable_of Tryz.func58) _ (node_ok x _) ?_
      rintro _ h6 ⟨rfl, rfl⟩
      by_cases hn : nodeB x = true
      · by_cases hlt : x ≤ last
        · have hf : decide (last < x) = false := by simp; omega
          rw [hn, hf] at hr
          refine goes_eq (by simp -implicitDefEqProofs (disch := (first | omega | (simp; done) | fail)) [if_pos, if_neg, wrap_i64, tmod_pos, tdiv_pos, Int.toNat_add, hn, hlt]; rfl) ?_
          repeat (first | ((first | refine zd ?_ | refine zx ?_ | refine zk ?_ | refine zl ?_ | refine zr ?_); refine zq ?_) | refine zs ?_ | refine zg ?_ | refine zb ?_ | refine zo ?_ | refine zt ?_ | refine zf ?_)
          first | refine zy (.inr rfl) ?_ | refine zy (.inl rfl) ?_
          simp [hr]
        · have hf : decide (last < x) = true := by simp; omega
          rw [hn, hf] at hr
          refine goes_eq (by simp -implicitDefEqProofs (disch := (first | omega | (simp; done) | fail)) [if_pos, if_neg, wrap_i64, tmod_pos, tdiv_pos, Int.toNat_add, hn, hlt]; rfl) ?_
          repeat (first | ((first | refine zd ?_ | refine zx ?_ | refine zk ?_ | refine zl ?_ | refine zr ?_); refine zq ?_) | refine zs ?_ | refine zg ?_ | refine zb ?_ | refine zo ?_ | refine zt ?_ | refine zf ?_)
          exact ⟨l.length - (i + 1), h21, i + 1, x, rfl, hi1, by simpa using hr, st_keep' (by simp []) (by simp [])⟩
      · have hn : nodeB x = false := by simpa using hn
        rw [hn] at hr
        refine goes_eq (by simp -implicitDefEqProofs (disch := (first | omega | (simp; done) | fail)) [if_pos, if_neg, wrap_i64, tmod_pos, tdiv_pos, Int.toNat_add, hn]; rfl) ?_
        repeat (first | ((first | refine zd ?_ | refine zx ?_ | refine zk ?_ | refine zl ?_ | refine zr ?_); refine zq ?_) | refine zs ?_ | refine zg ?_ | refine zb ?_ | refine zo ?_ | refine zt ?_ | refine zf ?_)
        first | refine zy (.inr rfl) ?_ | refine zy (.inl rfl) ?_
        simp [hr]
    · simp at h5
      rw [List.drop_eq_nil_of_le (by omega)] at hr
      repeat (first | ((first | refine zd ?_ | refine zx ?_ | refine zk ?_ | refine zl ?_ | refine zr ?_); refine zq ?_) | refine zs ?_ | refine zg ?_ | refine zb ?_ | refine zo ?_ | refine zt ?_ | refine zf ?_)
      first | refine zy (.inr rfl) ?_ | refine zy (.inl rfl) ?_
      simp [hr, rise]
  · exact ⟨0, -1, rfl, by omega, by simp, st_keep' (by simp []) (by simp [])⟩
end Go.Proofs.YtdncoobpdllpkaaGreat.C

/- Configurations: the document's answer, small functions. -/
set_option linter.unusedVariables false
set_option linter.unusedSimpArgs false
set_option maxRecDepth 20000
namespace Go.Proofs.YtdncoobpdllpkaaGreat.C
open Go Go.Proofs.YtdncoobpdllpkaaGreat.V
attribute [-simp] List.map_take List.map_drop
attribute [local simp] take_map drop_map List.take_take iv_uni iv_ones iv_onesL iv_strip
theorem rsame_ok (e f : Int) (a b : List Int) (hl : a.length ≤ 1000000) (hl2 : b.length ≤ 1000000) (h : AHeap) : ACalls Tryz.prog 27 [cv e a, cv f b] h fun r h' => r = .bool (decide (e = f ∧ a = b)) ∧ h' = h := by
  unfold cv
  refine acalls_of_awp Tryz.func27 rfl (by simp only [List.length_cons, List.length_nil]; decide) ?_
  simp only [params_cons, params_nil]
  refine awp_seq ?_
  refine zg ?_
  refine goes_done ?_
  (try simp only [vq, if_true, reduceIte, Nat.reduceEqDiff, reduceCtorEq])
  refine awp_hard (id := h.length) (cs := [.int .i64 e, .list (a.map iv) .no]) (by simp) ?_
  refine awp_hard (id := h.length + 1) (cs := [.int .i64 f, .list (b.map iv) .no]) (by simp) ?_
  simp only [Slots.melt, AV.melt, reduceIte, if_neg (show ¬ h.length + 1 = h.length by omega)]
  by_cases he : e = f
  · subst he
    have ee : (e != e) = false := by simp
    by_cases h1 : a.length = b.length
    · have e1 : ((a.length : Int) != (b.length : Int)) = false := by simp; omega
      repeat (first | ((first | refine zd ?_ | refine zx ?_ | refine zk ?_ | refine zl ?_ | refine zr ?_); refine zq ?_) | refine zs ?_ | refine zh (by simp -implicitDefEqProofs (disch := (first | omega | (simp; done) | fail)) [if_pos, if_neg, wrap_i64, tmod_pos, tdiv_pos, Int.toNat_add, ee, e1]; rfl) ?_ | refine zb ?_ | refine zo ?_ | refine zt ?_ | refine zf ?_)
      refine awp_loop (fun k st => ∃ i : Nat, k = a.length - i ∧ i ≤ a.length ∧ (∀ j, j < i → a[j]? = b[j]?) ∧ st.le ⟨Tryz.f27.ntmps, [(2, .ref [.int .i64 e, .list (a.map iv) .no] 0), (3, .ref [.int .i64 e, .list (b.map iv) .no] 0), (5, .int .i64 i)], h ++ [.dead, .dead]⟩) a.length ?_ ?_
      rotate_left
      · rintro k st ⟨i, rfl, hi, he, hle⟩
        refine awp_le hle ?_
        repeat (first | ((first | refine zd ?_ | refine zx ?_ | refine zk ?_ | refine zl ?_ | refine zr ?_); refine zq ?_) | refine zs ?_ | refine zg ?_ | refine zb ?_ | refine zo ?_ | refine zt ?_ | refine zf ?_)
        refine awp_cond rfl (fun h5 => ?_) (fun h5 => ?_)
        · simp at h5
          obtain ⟨x, hx⟩ : ∃ x, a[i]? = some x := ⟨a[i]'(by omega), by rw [List.getElem?_eq_getElem]⟩
          have hx2 : (a.map iv)[i]? = some (.int .i64 x) := by simp [hx]
          have hi1 : i + 1 ≤ a.length := by omega
          have h21 : a.length - (i + 1) < a.length - i := by omega
          have hi0 : (i : Int) + 1 ≤ 1000001 := by omega
          have hd : a.drop i = x :: a.drop (i + 1) := by
            obtain ⟨hi, rfl⟩ := List.getElem?_eq_some_iff.1 hx
            exact List.drop_eq_getElem_cons hi
          obtain ⟨y, hy⟩ : ∃ y, b[i]? = some y := ⟨b[i]'(by omega), by rw [List.getElem?_eq_getElem]⟩
          have hy2 : (b.map iv)[i]? = some (.int .i64 y) := by simp [hy]
          clear h5
          repeat (first | ((first | refine zd ?_ | refine zx ?_ | refine zk ?_ | refine zl ?_ | refine zr ?_); refine zq ?_) | refine zs ?_ | refine zg ?_ | refine zb ?_ | refine zo ?_ | refine zt ?_ | refine zf ?_)
          by_cases hxy : x = y
          · subst hxy
            have e3 : (x != x) = false := by simp
            refine awp_draw (.q 0 (.q 1 (.q 2 (.q 3 (.q 4 (.q 5 (.q 6 (.q 7 (.q 8 (.q 9 (.q 10 (.done)))))))))))) (by kernel_rfl) (by kernel_rfl) (tree_start (goesT_eq (by simp -implicitDefEqProofs (disch := (first | omega | (simp; done) | fail)) [if_pos, if_neg, wrap_i64, tmod_pos, tdiv_pos, Int.toNat_add, hx2, hy2, e3]; rfl) ?_))
            refine goesT_done ?_
            (try simp only [vq, if_true, reduceIte, Nat.reduceEqDiff, reduceCtorEq])
            repeat (first | ((first | refine zd ?_ | refine zx ?_ | refine zk ?_ | refine zl ?_ | refine zr ?_); refine zq ?_) | refine zs ?_ | refine zg ?_ | refine zb ?_ | refine zo ?_ | refine zt ?_ | refine zf ?_)
            exact ⟨a.length - (i + 1), h21, i + 1, rfl, hi1, fun j hj => by
              by_cases e : j = i
              · subst e; rw [hx, hy]
              · exact he j (by omega), st_keep' (by simp []) (by simp [])⟩
          · have e4 : (x != y) = true := by simpa using hxy
            have hab : a ≠ b := fun e => hxy (by subst e; rw [hx] at hy; injection hy)
            refine awp_draw (.q 0 (.q 1 (.q 2 (.q 3 (.q 4 (.q 5 (.q 6 (.q 7 (.q 8 (.q 9 (.q 10 (.done)))))))))))) (by kernel_rfl) (by kernel_rfl) (tree_start (goesT_eq (by simp -implicitDefEqProofs (disch := (first | omega | (simp; done) | fail)) [if_pos, if_neg, wrap_i64, tmod_pos, tdiv_pos, Int.toNat_add, hx2, hy2, e4]; rfl) ?_))
            refine goesT_done ?_
            (try simp only [vq, if_true, reduceIte, Nat.reduceEqDiff, reduceCtorEq])
            repeat (first | ((first | refine zd ?_ | refine zx ?_ | refine zk ?_ | refine zl ?_ | refine zr ?_); refine zq ?_) | refine zs ?_ | refine zg ?_ | refine zb ?_ | refine zo ?_ | refine zt ?_ | refine zf ?_)
            first | refine zy (.inr rfl) ?_ | refine zy (.inl rfl) ?_
            simp [hab]
        · simp at h5
          have hab : a = b := by
            apply List.ext_getElem?
            intro j
            by_cases hj : j < i
            · exact he j hj
            · rw [List.getElem?_eq_none (by omega), List.getElem?_eq_none (by omega)]
          repeat (first | ((first | refine zd ?_ | refine zx ?_ | refine zk ?_ | refine zl ?_ | refine zr ?_); refine zq ?_) | refine zs ?_ | refine zg ?_ | refine zb ?_ | refine zo ?_ | refine zt ?_ | refine zf ?_)
          first | refine zy (.inr rfl) ?_ | refine zy (.inl rfl) ?_
          simp [hab]
      · exact ⟨0, rfl, by omega, fun j hj => by omega, st_keep' (by simp []) (by simp [])⟩
    · have e1 : ((a.length : Int) != (b.length : Int)) = true := by simp; omega
      have e2 : a ≠ b := fun e => h1 (by rw [e])
      repeat (first | ((first | refine zd ?_ | refine zx ?_ | refine zk ?_ | refine zl ?_ | refine zr ?_); refine zq ?_) | refine zs ?_ | refine zh (by simp -implicitDefEqProofs (disch := (first | omega | (simp; done) | fail)) [if_pos, if_neg, wrap_i64, tmod_pos, tdiv_pos, Int.toNat_add, ee, e1]; rfl) ?_ | refine zb ?_ | refine zo ?_ | refine zt ?_ | refine zf ?_)
      first | refine zy (.inr rfl) ?_ | refine zy (.inl rfl) ?_
      simp [e2]
  · have e1 : (e != f) = true := by simpa using he
    repeat (first | ((first | refine zd ?_ | refine zx ?_ | refine zk ?_ | refine zl ?_ | refine zr ?_); refine zq ?_) | refine zs ?_ | refine zh (by simp -implicitDefEqProofs (disch := (first | omega | (simp; done) | fail)) [if_pos, if_neg, wrap_i64, tmod_pos, tdiv_pos, Int.toNat_add, e1]; rfl) ?_ | refine zb ?_ | refine zo ?_ | refine zt ?_ | refine zf ?_)
    first | refine zy (.inr rfl) ?_ | refine zy (.inl rfl) ?_
    simp [he]
/-- The last one of those that are done. -/
def lastV (l : List Int) (i : Nat) : Int := if i = 0 then -1 else l.getD (i - 1) 0
theorem rvalid_ok (e : Int) (l : List Int) (hl : l.length ≤ 1000000) (h : AHeap) : ACalls Tryz.prog 47 [cv e l] h fun r h' => r = .bool (validB e l) ∧ h' = h := by
  unfold cv
  refine acalls_of_awp Tryz.func47 rfl (by simp only [List.length_cons, List.length_nil]; decide) ?_
  simp only [params_cons, params_nil]
  repeat (first | ((first | refine zd ?_ | refine zx ?_ | refine zk ?_ | refine zl ?_ | refine zr ?_); refine zq ?_) | refine zs ?_ | refine zg ?_ | refine zb ?_ | refine zo ?_ | refine zt ?_ | refine zf ?_)
  refine awp_hard (id := h.length) (cs := [.int .i64 e, .list (l.map iv) .no]) (by simp) ?_
  simp only [Slots.melt, AV.melt, reduceIte]
  refine awp_loop (fun k st => ∃ i : Nat, k = l.length - i ∧ i ≤ l.length ∧ rise (-1) l = rise (lastV l i) (l.drop i) ∧ st.le ⟨Tryz.f47.ntmps, [(1, .ref [.int .i64 e, .list (l.map iv) .no] 0), (3, .int .i64 i)], h ++ [.dead]⟩) l.length ?_ ?_
  rotate_left
  · rintro k st ⟨i, rfl, hi, hr, hle⟩
    refine awp_le hle ?_
    repeat (first | ((first | refine zd ?_ | refine zx ?_ | refine zk ?_ | refine zl ?_ | refine zr ?_); refine zq ?_) | refine zs ?_ | refine zg ?_ | refine zb ?_ | refine zo ?_ | refine zt ?_ | refine zf ?_)
    refine awp_cond rfl (fun h5 => ?_) (fun h5 => ?_)
    · simp at h5
      obtain ⟨x, hx⟩ : ∃ x, l[i]? = some x := ⟨l[i]'(by omega), by rw [List.getElem?_eq_getElem]⟩
      have hx2 : (l.map iv)[i]? = some (.int .i64 x) := by simp [hx]
      have hi1 : i + 1 ≤ l.length := by omega
      have h21 : l.length - (i + 1) < l.length - i := by omega
      have hi0 : (i : Int) + 1 ≤ 1000001 := by omega
      have hd : l.drop i = x :: l.drop (i + 1) := by
        obtain ⟨hi, rfl⟩ := List.getElem?_eq_some_iff.1 hx
        exact List.drop_eq_getElem_cons hi
      rw [hd, rise] at hr
      have hl1 : lastV l (i + 1) = x := by simp [lastV, hx]
      clear h5 hle
      repeat (first | ((first | refine zd ?_ | refine zx ?_ | refine zk ?_ | refine zl ?_ | refine zr ?_); refine zq ?_) | refine zs ?_ | refine zg ?_ | refine zb ?_ | refine zo ?_ | refine zt ?_ | refine zf ?_)
      by_cases n1 : x < 0
      · have n2 : nodeB x = false := by simp [nodeB]; omega
        refine awp_draw (.q 0 (.q 1 (.q 2 (.q 3 (.q 4 (.q 5 (.q 6 (.q 7 (.q 8 (.q 9 (.q 10 (.q 11 (.q 12 (.q 13 (.q 14 (.q 15 (.q 16 (.q 17 (.q 18 (.q 19 (.q 20 (.q 21 (.q 22 (.q 23 (.q 24 (.q 25 (.q 26 (.q 27 (.a 28 (.q 29 (.q 30 (.q 31 (.done))))))))))))))))))))))))))))))))) (by kernel_rfl) (by kernel_rfl) (tree_start (goesT_eq (by simp -implicitDefEqProofs (disch := (first | omega | (simp; done) | fail)) [if_pos, if_neg, wrap_i64, tmod_pos, tdiv_pos, Int.toNat_add, hx2, n1]; rfl) ?_))
        refine goesT_done ?_
        (try simp only [vq, if_true, reduceIte, Nat.reduceEqDiff, reduceCtorEq])
        repeat (first | ((first | refine zd ?_ | refine zx ?_ | refine zk ?_ | refine zl ?_ | refine zr ?_); refine zq ?_) | refine zs ?_ | refine zg ?_ | refine zb ?_ | refine zo ?_ | refine zt ?_ | refine zf ?_)
        first | refine zy (.inr rfl) ?_ | refine zy (.inl rfl) ?_
        simp [validB, hr, n2]
      by_cases n3 : 31 < x
      · have n2 : nodeB x = false := by simp [nodeB]; omega
        refine awp_draw (.q 0 (.q 1 (.q 2 (.q 3 (.q 4 (.q 5 (.q 6 (.q 7 (.q 8 (.q 9 (.q 10 (.q 11 (.q 12 (.q 13 (.q 14 (.q 15 (.q 16 (.q 17 (.q 18 (.q 19 (.q 20 (.q 21 (.q 22 (.q 23 (.q 24 (.q 25 (.q 26 (.q 27 (.a 28 (.q 29 (.q 30 (.q 31 (.done))))))))))))))))))))))))))))))))) (by kernel_rfl) (by kernel_rfl) (tree_start (goesT_eq (by simp -implicitDefEqProofs (disch := (first | omega | (simp; done) | fail)) [if_pos, if_neg, wrap_i64, tmod_pos, tdiv_pos, Int.toNat_add, hx2, n1, n3]; rfl) ?_))
        refine goesT_done ?_
        (try simp only [vq, if_true, reduceIte, Nat.reduceEqDiff, reduceCtorEq])
        repeat (first | ((first | refine zd ?_ | refine zx ?_ | refine zk ?_ | refine zl ?_ | refine zr ?_); refine zq ?_) | refine zs ?_ | refine zg ?_ | refine zb ?_ | refine zo ?_ | refine zt ?_ | refine zf ?_)
        first | refine zy (.inr rfl) ?_ | refine zy (.inl rfl) ?_
        simp [validB, hr, n2]
      have n2 : nodeB x = true := by simp [nodeB]; omega
      by_cases hi0 : i = 0
      · subst hi0
        have hl0 : lastV l 0 = -1 := rfl
        have hlt : decide (-1 < x) = true := by simp; omega
        rw [hl0, n2, hlt] at hr
        refine awp_draw (.q 0 (.q 1 (.q 2 (.q 3 (.q 4 (.q 5 (.q 6 (.q 7 (.q 8 (.q 9 (.q 10 (.q 11 (.q 12 (.q 13 (.q 14 (.q 15 (.q 16 (.q 17 (.q 18 (.q 19 (.q 20 (.q 21 (.q 22 (.q 23 (.q 24 (.q 25 (.q 26 (.q 27 (.a 28 (.q 29 (.q 30 (.q 31 (.done))))))))))))))))))))))))))))))))) (by kernel_rfl) (by kernel_rfl) (tree_start (goesT_eq (by simp -implicitDefEqProofs (disch := (first | omega | (simp; done) | fail)) [if_pos, if_neg, wrap_i64, tmod_pos, tdiv_pos, Int.toNat_add, hx2, n1, n3]; rfl) ?_))
        refine goesT_done ?_
        (try simp only [vq, if_true, reduceIte, Nat.reduceEqDiff, reduceCtorEq])
        repeat (first | ((first | refine zd ?_ | refine zx ?_ | refine zk ?_ | refine zl ?_ | refine zr ?_); refine zq ?_) | refine zs ?_ | refine zg ?_ | refine zb ?_ | refine zo ?_ | refine zt ?_ | refine zf ?_)
        exact ⟨l.length - (0 + 1), h21, 0 + 1, rfl, hi1, by rw [hl1]; simpa using hr, st_keep' (by simp []) (by simp [])⟩
      · obtain ⟨j, rfl⟩ : ∃ j, i = j + 1 := ⟨i - 1, by omega⟩
        obtain ⟨y, hy⟩ : ∃ y, l[j]? = some y := ⟨l[j]'(by omega), by rw [List.getElem?_eq_getElem]⟩
        have hy2 : (l.map iv)[j]? = some (.int .i64 y) := by simp [hy]
        have hly : lastV l (j + 1) = y := by simp [lastV, hy]
        have hj1 : (0 : Int) < (j : Int) + 1 := by omega
        have hj2 : (j : Int) + 1 - 1 = j := by omega
        rw [hly, n2] at hr
        by_cases hlt : x ≤ y
        · have hf : decide (y < x) = false := by simp; omega
          rw [hf] at hr
          refine awp_draw (.q 0 (.q 1 (.q 2 (.q 3 (.q 4 (.q 5 (.q 6 (.q 7 (.q 8 (.q 9 (.q 10 (.q 11 (.q 12 (.q 13 (.q 14 (.q 15 (.q 16 (.q 17 (.q 18 (.q 19 (.q 20 (.q 21 (.q 22 (.q 23 (.q 24 (.q 25 (.q 26 (.q 27 (.a 28 (.q 29 (.q 30 (.q 31 (.done))))))))))))))))))))))))))))))))) (by kernel_rfl) (by kernel_rfl) (tree_start (goesT_eq (by simp -implicitDefEqProofs (disch := (first | omega | (simp; done) | fail)) [if_pos, if_neg, wrap_i64, tmod_pos, tdiv_pos, Int.toNat_add, hx2, hy2, n1, n3, hj1, hj2, hlt]; rfl) ?_))
          refine goesT_done ?_
          (try simp only [vq, if_true, reduceIte, Nat.reduceEqDiff, reduceCtorEq])
          repeat (first | ((first | refine zd ?_ | refine zx ?_ | refine zk ?_ | refine zl ?_ | refine zr ?_); refine zq ?_) | refine zs ?_ | refine zg ?_ | refine zb ?_ | refine zo ?_ | refine zt ?_ | refine zf ?_)
          first | refine zy (.inr rfl) ?_ | refine zy (.inl rfl) ?_
          simp [validB, hr]
        · have hf : decide (y < x) = true := by simp; omega
          rw [hf] at hr
          refine awp_draw (.q 0 (.q 1 (.q 2 (.q 3 (.q 4 (.q 5 (.q 6 (.q 7 (.q 8 (.q 9 (.q 10 (.q 11 (.q 12 (.q 13 (.q 14 (.q 15 (.q 16 (.q 17 (.q 18 (.q 19 (.q 20 (.q 21 (.q 22 (.q 23 (.q 24 (.q 25 (.q 26 (.q 27 (.a 28 (.q 29 (.q 30 (.q 31 (.done))))))))))))))))))))))))))))))))) (by kernel_rfl) (by kernel_rfl) (tree_start (goesT_eq (by simp -implicitDefEqProofs (disch := (first | omega | (simp; done) | fail)) [if_pos, if_neg, wrap_i64, tmod_pos, tdiv_pos, Int.toNat_add, hx2, hy2, n1, n3, hj1, hj2, hlt]; rfl) ?_))
          refine goesT_done ?_
          (try simp only [vq, if_true, reduceIte, Nat.reduceEqDiff, reduceCtorEq])
          repeat (first | ((first | refine zd ?_ | refine zx ?_ | refine zk ?_ | refine zl ?_ | refine zr ?_); refine zq ?_) | refine zs ?_ | refine zg ?_ | refine zb ?_ | refine zo ?_ | refine zt ?_ | refine zf ?_)
          exact ⟨l.length - (j + 1 + 1), h21, j + 1 + 1, rfl, hi1, by rw [hl1]; simpa using hr, st_keep' (by simp []) (by simp [])⟩
    · simp at h5
      rw [List.drop_eq_nil_of_le (by omega)] at hr
      have hr2 : rise (-1) l = true := hr
      by_cases k1 : 0 ≤ e
      · by_cases k2 : e ≤ 1048576
        · by_cases k3 : (1 : Int) ≤ (l.length : Int)
          · by_cases k4 : (l.length : Int) ≤ 7
            · repeat (first | ((first | refine zd ?_ | refine zx ?_ | refine zk ?_ | refine zl ?_ | refine zr ?_); refine zq ?_) | refine zs ?_ | refine zh (by simp -implicitDefEqProofs (disch := (first | omega | (simp; done) | fail)) [if_pos, if_neg, wrap_i64, tmod_pos, tdiv_pos, Int.toNat_add, k1, k2, k3, k4]; rfl) ?_ | refine zb ?_ | refine zo ?_ | refine zt ?_ | refine zf ?_)
              first | refine zy (.inr rfl) ?_ | refine zy (.inl rfl) ?_
              simp [validB, hr2, k1, k2]; omega
            · repeat (first | ((first | refine zd ?_ | refine zx ?_ | refine zk ?_ | refine zl ?_ | refine zr ?_); refine zq ?_) | refine zs ?_ | refine zh (by simp -implicitDefEqProofs (disch := (first | omega | (simp; done) | fail)) [if_pos, if_neg, wrap_i64, tmod_pos, tdiv_pos, Int.toNat_add, k1, k2, k3, k4]; rfl) ?_ | refine zb ?_ | refine zo ?_ | refine zt ?_ | refine zf ?_)
              first | refine zy (.inr rfl) ?_ | refine zy (.inl rfl) ?_
              simp [validB, hr2, k1, k2]; omega
          · repeat (first | ((first | refine zd ?_ | refine zx ?_ | refine zk ?_ | refine zl ?_ | refine zr ?_); refine zq ?_) | refine zs ?_ | refine zh (by simp -implicitDefEqProofs (disch := (first | omega | (simp; done) | fail)) [if_pos, if_neg, wrap_i64, tmod_pos, tdiv_pos, Int.toNat_add, k1, k2, k3]; rfl) ?_ | refine zb ?_ | refine zo ?_ | refine zt ?_ | refine zf ?_)
            first | refine zy (.inr rfl) ?_ | refine zy (.inl rfl) ?_
            simp [validB, hr2, k1, k2]; omega
        · repeat (first | ((first | refine zd ?_ | refine zx ?_ | refine zk ?_ | refine zl ?_ | refine zr ?_); refine zq ?_) | refine zs ?_ | refine zh (by simp -implicitDefEqProofs (disch := (first | omega | (simp; done) | fail)) [if_pos, if_neg, wrap_i64, tmod_pos, tdiv_pos, Int.toNat_add, k1, k2]; rfl) ?_ | refine zb ?_ | refine zo ?_ | refine zt ?_ | refine zf ?_)
          first | refine zy (.inr rfl) ?_ | refine zy (.inl rfl) ?_
          simp [validB, k1, k2]
      · repeat (first | ((first | refine zd ?_ | refine zx ?_ | refine zk ?_ | refine zl ?_ | refine zr ?_); refine zq ?_) | refine zs ?_ | refine zh (by simp -implicitDefEqProofs (disch := (first | omega | (simp; done) | fail)) [if_pos, if_neg, wrap_i64, tmod_pos, tdiv_pos, Int.toNat_add, k1]; rfl) ?_ | refine zb ?_ | refine zo ?_ | refine zt ?_ | refine zf ?_)
        first | refine zy (.inr rfl) ?_ | refine zy (.inl rfl) ?_
        simp [validB, k1]
  · exact ⟨0, rfl, by omega, rfl, st_keep' (by simp []) (by simp [])⟩
end Go.Proofs.YtdncoobpdllpkaaGreat.C
