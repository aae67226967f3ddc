import Derived.Test.YtdncoobpdllpkaaGreatCA
import Derived.Test.YtdncoobpdllpkaaGreatDA
import Derived.Test.YtdncoobpdllpkaaGreatIB
import Derived.Test.YtdncoobpdllpkaaGreatDC
import Derived.Test.YtdncoobpdllpkaaGreatV19
/- Snaps: whether two are the same. -/
set_option linter.unusedVariables false
set_option linter.unusedSimpArgs false
set_option maxRecDepth 20000
namespace Go.Proofs.YtdncoobpdllpkaaGreat.Q
open Go Go.Proofs.YtdncoobpdllpkaaGreat.V Go.Proofs.YtdncoobpdllpkaaGreat.N Go.Proofs.YtdncoobpdllpkaaGreat.D
attribute [-simp] List.map_take List.map_drop
attribute [local simp] take_map drop_map List.take_take
theorem ext_upto {α : Type} {a b : List α} {i : Nat} (h1 : a.length = b.length) (h2 : ¬ i < a.length) (he : ∀ j, j < i → a[j]? = b[j]?) : a = b := by
  apply List.ext_getElem?
  intro j
  by_cases hj : j < i
  · exact he j hj
  · rw [List.getElem?_eq_none (by omega), List.getElem?_eq_none (by omega)]
theorem upto_next {α : Type} {a b : List α} {i : Nat} {x : α} (he : ∀ j, j < i → a[j]? = b[j]?) (hx : a[i]? = some x) (hy : b[i]? = some x) : ∀ j, j < i + 1 → a[j]? = b[j]? := fun j hj => by
  by_cases e : j = i
  · subst e; rw [hx, hy]
  · exact he j (by omega)
theorem equalS_ok (a b : List (List UInt8)) (ta tb : Tok) (hl : a.length ≤ 1000000) (hl2 : b.length ≤ 1000000) (h : AHeap) : ACalls Tryz.prog 50 [.list (a.map AV.str) ta, .list (b.map AV.str) tb] h fun r h' => r = .bool (decide (a = b)) ∧ h' = h := by
      refine acalls_of_awp Tryz.func50 rfl (by simp only [List.length_cons, List.length_nil]; decide) ?_
      simp only [params_cons, params_nil]
      by_cases h1 : a.length = b.length
      · have e1 : ((a.length : Int) != (b.length : Int)) = false := by simp; omega
        repeat (first | ((first | refine zd ?_ | refine zx ?_ | refine zk ?_ | refine zl ?_ | refine zr ?_); refine zq ?_) | refine zs ?_ | refine zh (by simp -implicitDefEqProofs (disch := (first | omega | (simp; done) | fail)) [if_pos, if_neg, wrap_i64, tmod_pos, tdiv_pos, Int.toNat_add, e1]; rfl) ?_ | refine zb ?_ | refine zo ?_ | refine zt ?_ | refine zf ?_)
        refine awp_loop (fun k st => ∃ i : Nat, k = a.length - i ∧ i ≤ a.length ∧ (∀ j, j < i → a[j]? = b[j]?) ∧ st.le ⟨Tryz.f50.ntmps, [(0, .list (a.map AV.str) ta), (1, .list (b.map AV.str) tb), (12, .int .i64 a.length), (13, .int .i64 i)], h⟩) a.length ?_ ?_
        rotate_left
        · rintro k st ⟨i, rfl, hi, he, hle⟩
          refine awp_le hle ?_
          repeat (first | ((first | refine zd ?_ | refine zx ?_ | refine zk ?_ | refine zl ?_ | refine zr ?_); refine zq ?_) | refine zs ?_ | refine zg ?_ | refine zb ?_ | refine zo ?_ | refine zt ?_ | refine zf ?_)
          refine awp_cond rfl (fun h2 => ?_) (fun h2 => ?_)
          · simp at h2
            obtain ⟨x, hx⟩ : ∃ x, a[i]? = some x := ⟨a[i]'(by omega), by rw [List.getElem?_eq_getElem]⟩
            obtain ⟨y, hy⟩ : ∃ y, b[i]? = some y := ⟨b[i]'(by omega), by rw [List.getElem?_eq_getElem]⟩
            have hx2 : (a.map AV.str)[i]? = some (AV.str x) := by simp [hx]
            have hy2 : (b.map AV.str)[i]? = some (AV.str y) := by simp [hy]
            have hi1 : i + 1 ≤ a.length := by omega
            have hi0 : (i : Int) + 1 ≤ 1000001 := by omega
            have h21 : a.length - (i + 1) < a.length - i := by omega
            clear h2
            repeat (first | ((first | refine zd ?_ | refine zx ?_ | refine zk ?_ | refine zl ?_ | refine zr ?_); refine zq ?_) | refine zs ?_ | refine zh (by simp -implicitDefEqProofs (disch := (first | omega | (simp; done) | fail)) [if_pos, if_neg, wrap_i64, tmod_pos, tdiv_pos, Int.toNat_add, hx2, str_uni]; rfl) ?_ | refine zb ?_ | refine zo ?_ | refine zt ?_ | refine zf ?_)
            by_cases hxy : x = y
            · subst hxy
              refine awp_draw (.q 0 (.q 1 (.q 2 (.q 3 (.q 4 (.q 5 (.q 6 (.q 7 (.q 8 (.done)))))))))) (by kernel_rfl) (by kernel_rfl) (tree_start (goesT_eq (by simp -implicitDefEqProofs (disch := (first | omega | (simp; done) | fail)) [if_pos, if_neg, wrap_i64, tmod_pos, tdiv_pos, Int.toNat_add, hx2, hy2, str_uni]; rfl) ?_))
              refine goesT_done ?_
              (try simp only [vq, if_true, reduceIte, Nat.reduceEqDiff, reduceCtorEq])
              repeat (first | ((first | refine zd ?_ | refine zx ?_ | refine zk ?_ | refine zl ?_ | refine zr ?_); refine zq ?_) | refine zs ?_ | refine zg ?_ | refine zb ?_ | refine zo ?_ | refine zt ?_ | refine zf ?_)
              exact ⟨a.length - (i + 1), h21, i + 1, rfl, hi1, upto_next he hx hy, st_keep' (by simp []) (by simp [])⟩
            · have e3 : (x == y) = false := by simpa using hxy
              have e4 : (x != y) = true := by simpa using hxy
              have hab : a ≠ b := fun e => hxy (by subst e; rw [hx] at hy; injection hy)
              refine awp_draw (.q 0 (.q 1 (.q 2 (.q 3 (.q 4 (.q 5 (.q 6 (.q 7 (.q 8 (.done)))))))))) (by kernel_rfl) (by kernel_rfl) (tree_start (goesT_eq (by simp -implicitDefEqProofs (disch := (first | omega | (simp; done) | fail)) [if_pos, if_neg, wrap_i64, tmod_pos, tdiv_pos, Int.toNat_add, hx2, hy2, e3, e4, str_uni]; rfl) ?_))
              refine goesT_done ?_
              (try simp only [vq, if_true, reduceIte, Nat.reduceEqDiff, reduceCtorEq])
              repeat (first | ((first | refine zd ?_ | refine zx ?_ | refine zk ?_ | refine zl ?_ | refine zr ?_); refine zq ?_) | refine zs ?_ | refine zg ?_ | refine zb ?_ | refine zo ?_ | refine zt ?_ | refine zf ?_)
              first | refine zY (.inr rfl) ?_ | refine zY (.inl rfl) ?_
              simp [hab]
          · simp at h2
            have hab : a = b := ext_upto h1 (by omega) he
            repeat (first | ((first | refine zd ?_ | refine zx ?_ | refine zk ?_ | refine zl ?_ | refine zr ?_); refine zq ?_) | refine zs ?_ | refine zg ?_ | refine zb ?_ | refine zo ?_ | refine zt ?_ | refine zf ?_)
            first | refine zY (.inr rfl) ?_ | refine zY (.inl rfl) ?_
            simp [hab]
        · exact ⟨0, rfl, by omega, fun j hj => by omega, st_keep' (by simp []) (by simp [])⟩
      · have e1 : ((a.length : Int) != (b.length : Int)) = true := by simp; omega
        have e2 : a ≠ b := fun e => h1 (by rw [e])
        repeat (first | ((first | refine zd ?_ | refine zx ?_ | refine zk ?_ | refine zl ?_ | refine zr ?_); refine zq ?_) | refine zs ?_ | refine zh (by simp -implicitDefEqProofs (disch := (first | omega | (simp; done) | fail)) [if_pos, if_neg, wrap_i64, tmod_pos, tdiv_pos, Int.toNat_add, e1]; rfl) ?_ | refine zb ?_ | refine zo ?_ | refine zt ?_ | refine zf ?_)
        first | refine zY (.inr rfl) ?_ | refine zY (.inl rfl) ?_
        simp [e2]
theorem equalE_ok (a b : List Entry) (ta tb : Tok) (hl : a.length ≤ 1000000) (hl2 : b.length ≤ 1000000) (h : AHeap) : ACalls Tryz.prog 25 [.list (a.map Entry.av) ta, .list (b.map Entry.av) tb] h fun r h' => r = .bool (decide (a = b)) ∧ h' = h := by
  refine acalls_of_awp Tryz.func25 rfl (by simp only [List.length_cons, List.length_nil]; decide) ?_
  simp only [params_cons, params_nil]
  by_cases h1 : a.length = b.length
  · have e1 : ((a.length : Int) != (b.length : Int)) = false := by simp; omega
    repeat (first | ((first | refine zd ?_ | refine zx ?_ | refine zk ?_ | refine zl ?_ | refine zr ?_); refine zq ?_) | refine zs ?_ | refine zh (by simp -implicitDefEqProofs (disch := (first | omega | (simp; done) | fail)) [if_pos, if_neg, wrap_i64, tmod_pos, tdiv_pos, Int.toNat_add, e1]; rfl) ?_ | refine zb ?_ | refine zo ?_ | refine zt ?_ | refine zf ?_)
    refine awp_loop (fun k st => ∃ i : Nat, k = a.length - i ∧ i ≤ a.length ∧ (∀ j, j < i → a[j]? = b[j]?) ∧ st.le ⟨Tryz.f25.ntmps, [(0, .list (a.map Entry.av) ta), (1, .list (b.map Entry.av) tb), (12, .int .i64 a.length), (13, .int .i64 i)], h⟩) a.length ?_ ?_
    rotate_left
    · rintro k st ⟨i, rfl, hi, he, hle⟩
      refine awp_le hle ?_
      repeat (first | ((first | refine zd ?_ | refine zx ?_ | refine zk ?_ | refine zl ?_ | refine zr ?_); refine zq ?_) | refine zs ?_ | refine zg ?_ | refine zb ?_ | refine zo ?_ | refine zt ?_ | refine zf ?_)
      refine awp_cond rfl (fun h2 => ?_) (fun h2 => ?_)
      · simp at h2
        obtain ⟨x, hx⟩ : ∃ x, a[i]? = some x := ⟨a[i]'(by omega), by rw [List.getElem?_eq_getElem]⟩
        obtain ⟨y, hy⟩ : ∃ y, b[i]? = some y := ⟨b[i]'(by omega), by rw [List.getElem?_eq_getElem]⟩
        have hx2 : (a.map Entry.av)[i]? = some (Entry.av x) := by simp [hx]
        have hy2 : (b.map Entry.av)[i]? = some (Entry.av y) := by simp [hy]
        have hi1 : i + 1 ≤ a.length := by omega
        have hi0 : (i : Int) + 1 ≤ 1000001 := by omega
        have h21 : a.length - (i + 1) < a.length - i := by omega
        clear h2
        repeat (first | ((first | refine zd ?_ | refine zx ?_ | refine zk ?_ | refine zl ?_ | refine zr ?_); refine zq ?_) | refine zs ?_ | refine zh (by simp -implicitDefEqProofs (disch := (first | omega | (simp; done) | fail)) [if_pos, if_neg, wrap_i64, tmod_pos, tdiv_pos, Int.toNat_add, hx2, entl_uni, Entry.av, Entry.c, AV.cells]; rfl) ?_ | refine zb ?_ | refine zo ?_ | refine zt ?_ | refine zf ?_)
        by_cases hxy : x = y
        · subst hxy
          refine awp_draw (.q 0 (.q 1 (.q 2 (.q 3 (.q 4 (.q 5 (.q 6 (.q 7 (.q 8 (.done)))))))))) (by kernel_rfl) (by kernel_rfl) (tree_start (goesT_eq (by simp -implicitDefEqProofs (disch := (first | omega | (simp; done) | fail)) [if_pos, if_neg, wrap_i64, tmod_pos, tdiv_pos, Int.toNat_add, hx2, hy2, entl_uni, Entry.av, Entry.c, AV.cells]; rfl) ?_))
          refine goesT_done ?_
          (try simp only [vq, if_true, reduceIte, Nat.reduceEqDiff, reduceCtorEq])
          repeat (first | ((first | refine zd ?_ | refine zx ?_ | refine zk ?_ | refine zl ?_ | refine zr ?_); refine zq ?_) | refine zs ?_ | refine zg ?_ | refine zb ?_ | refine zo ?_ | refine zt ?_ | refine zf ?_)
          exact ⟨a.length - (i + 1), h21, i + 1, rfl, hi1, upto_next he hx hy, st_keep' (by simp []) (by simp [])⟩
        · have e3 : (x.path == y.path && (x.value == y.value && x.version == y.version)) = false := by
            cases x; cases y; simpa using hxy
          have e4 : (x.path != y.path || (x.value != y.value || x.version != y.version)) = true := by
            cases x; cases y
            simp only [Entry.mk.injEq, Classical.not_and_iff_not_or_not] at hxy
            simpa [bne] using hxy
          have hab : a ≠ b := fun e => hxy (by subst e; rw [hx] at hy; injection hy)
          refine awp_draw (.q 0 (.q 1 (.q 2 (.q 3 (.q 4 (.q 5 (.q 6 (.q 7 (.q 8 (.done)))))))))) (by kernel_rfl) (by kernel_rfl) (tree_start (goesT_eq (by simp -implicitDefEqProofs (disch := (first | omega | (simp; done) | fail)) [if_pos, if_neg, wrap_i64, tmod_pos, tdiv_pos, Int.toNat_add, hx2, hy2, e3, e4, entl_uni, Entry.av, Entry.c, AV.cells]; rfl) ?_))
          refine goesT_done ?_
          (try simp only [vq, if_true, reduceIte, Nat.reduceEqDiff, reduceCtorEq])
          repeat (first | ((first | refine zd ?_ | refine zx ?_ | refine zk ?_ | refine zl ?_ | refine zr ?_); refine zq ?_) | refine zs ?_ | refine zg ?_ | refine zb ?_ | refine zo ?_ | refine zt ?_ | refine zf ?_)
          first | refine zY (.inr rfl) ?_ | refine zY (.inl rfl) ?_
          simp [hab]
      · simp at h2
        have hab : a = b := ext_upto h1 (by omega) he
        repeat (first | ((first | refine zd ?_ | refine zx ?_ | refine zk ?_ | refine zl ?_ | refine zr ?_); refine zq ?_) | refine zs ?_ | refine zg ?_ | refine zb ?_ | refine zo ?_ | refine zt ?_ | refine zf ?_)
        first | refine zY (.inr rfl) ?_ | refine zY (.inl rfl) ?_
        simp [hab]
    · exact ⟨0, rfl, by omega, fun j hj => by omega, st_keep' (by simp []) (by simp [])⟩
  · have e1 : ((a.length : Int) != (b.length : Int)) = true := by simp; omega
    have e2 : a ≠ b := fun e => h1 (by rw [e])
    repeat (first | ((first | refine zd ?_ | refine zx ?_ | refine zk ?_ | refine zl ?_ | refine zr ?_); refine zq ?_) | refine zs ?_ | refine zh (by simp -implicitDefEqProofs (disch := (first | omega | (simp; done) | fail)) [if_pos, if_neg, wrap_i64, tmod_pos, tdiv_pos, Int.toNat_add, e1]; rfl) ?_ | refine zb ?_ | refine zo ?_ | refine zt ?_ | refine zf ?_)
    first | refine zY (.inr rfl) ?_ | refine zY (.inl rfl) ?_
    simp [e2]
end Go.Proofs.YtdncoobpdllpkaaGreat.Q

/- Snaps: whether two are the same, as the program has it. -/
set_option linter.unusedVariables false
set_option linter.unusedSimpArgs false
set_option maxRecDepth 20000
namespace Go.Proofs.YtdncoobpdllpkaaGreat.Q
open Go Go.Proofs.YtdncoobpdllpkaaGreat.V Go.Proofs.YtdncoobpdllpkaaGreat.N Go.Proofs.YtdncoobpdllpkaaGreat.D
attribute [-simp] List.map_take List.map_drop
attribute [local simp] take_map drop_map List.take_take
theorem str_s : AV.strip ∘ AV.str = AV.str := s_comp fun x => by simp
theorem sameReply_ok (x y : Reply) (hx : x.names.length ≤ 1000000) (hy : y.names.length ≤ 1000000) (h : AHeap) : ACalls Tryz.prog 23 [.agg x.c, .agg y.c] h fun r h' => r = .bool (decide (x = y)) ∧ h' = h := by
  unfold Reply.c
  refine acalls_of_awp Tryz.func23 rfl (by simp only [List.length_cons, List.length_nil]; decide) ?_
  simp only [params_cons, params_nil]
  by_cases h1 : x.err = y.err
  · have e1 : (x.err == y.err) = true := by simpa using h1
    by_cases h2 : x.value = y.value
    · have e2 : (x.value == y.value) = true := by simpa using h2
      by_cases h3 : x.version = y.version
      · have e3 : (x.version == y.version) = true := by simpa using h3
        repeat (first | ((first | refine zd ?_ | refine zx ?_ | refine zk ?_ | refine zl ?_ | refine zr ?_); refine zq ?_) | refine zs ?_ | refine zh (by simp -implicitDefEqProofs (disch := (first | omega | (simp; done) | fail)) [if_pos, if_neg, wrap_i64, tmod_pos, tdiv_pos, Int.toNat_add, e1, e2, e3]; rfl) ?_ | refine zb ?_ | refine zo ?_ | refine zt ?_ | refine zf ?_)
        refine goes_callS (callable_of Tryz.func50) (by simp -implicitDefEqProofs (disch := (first | omega | (simp; done) | fail)) [if_pos, if_neg, wrap_i64, tmod_pos, tdiv_pos, Int.toNat_add, str_s] <;> first | rfl | omega) _ (equalS_ok x.names y.names .no .no hx hy _) ?_
        rintro _ h1 ⟨rfl, rfl⟩
        refine goes_eq (by simp -implicitDefEqProofs (disch := (first | omega | (simp; done) | fail)) [if_pos, if_neg, wrap_i64, tmod_pos, tdiv_pos, Int.toNat_add, e1, e2, e3]; rfl) ?_
        repeat (first | ((first | refine zd ?_ | refine zx ?_ | refine zk ?_ | refine zl ?_ | refine zr ?_); refine zq ?_) | refine zs ?_ | refine zg ?_ | refine zb ?_ | refine zo ?_ | refine zt ?_ | refine zf ?_)
        first | refine zy (.inr rfl) ?_ | refine zy (.inl rfl) ?_
        cases x; cases y
        simp at h1 h2 h3 ⊢
        simp [h1, h2, h3]
      · have e3 : (x.version == y.version) = false := by simpa using h3
        repeat (first | ((first | refine zd ?_ | refine zx ?_ | refine zk ?_ | refine zl ?_ | refine zr ?_); refine zq ?_) | refine zs ?_ | refine zh (by simp -implicitDefEqProofs (disch := (first | omega | (simp; done) | fail)) [if_pos, if_neg, wrap_i64, tmod_pos, tdiv_pos, Int.toNat_add, e1, e2, e3]; rfl) ?_ | refine zb ?_ | refine zo ?_ | refine zt ?_ | refine zf ?_)
        first | refine zy (.inr rfl) ?_ | refine zy (.inl rfl) ?_
        cases x; cases y
        simp at h3 ⊢
        simp [h3]
    · have e2 : (x.value == y.value) = false := by simpa using h2
      repeat (first | ((first | refine zd ?_ | refine zx ?_ | refine zk ?_ | refine zl ?_ | refine zr ?_); refine zq ?_) | refine zs ?_ | refine zh (by simp -implicitDefEqProofs (disch := (first | omega | (simp; done) | fail)) [if_pos, if_neg, wrap_i64, tmod_pos, tdiv_pos, Int.toNat_add, e1, e2]; rfl) ?_ | refine zb ?_ | refine zo ?_ | refine zt ?_ | refine zf ?_)
      first | refine zy (.inr rfl) ?_ | refine zy (.inl rfl) ?_
      cases x; cases y
      simp at h2 ⊢
      simp [h2]
  · have e1 : (x.err == y.err) = false := by simpa using h1
    repeat (first | ((first | refine zd ?_ | refine zx ?_ | refine zk ?_ | refine zl ?_ | refine zr ?_); refine zq ?_) | refine zs ?_ | refine zh (by simp -implicitDefEqProofs (disch := (first | omega | (simp; done) | fail)) [if_pos, if_neg, wrap_i64, tmod_pos, tdiv_pos, Int.toNat_add, e1]; rfl) ?_ | refine zb ?_ | refine zo ?_ | refine zt ?_ | refine zf ?_)
    first | refine zy (.inr rfl) ?_ | refine zy (.inl rfl) ?_
    cases x; cases y
    simp at h1 ⊢
    simp [h1]
theorem sameS_ok (x y : Sess) (hx : x.reply.names.length ≤ 1000000) (hy : y.reply.names.length ≤ 1000000) (h : AHeap) : ACalls Tryz.prog 22 [.agg x.c, .agg y.c] h fun r h' => r = .bool (decide (x = y)) ∧ h' = h := by
  unfold Sess.c
  refine acalls_of_awp Tryz.func22 rfl (by simp only [List.length_cons, List.length_nil]; decide) ?_
  simp only [params_cons, params_nil]
  by_cases h1 : x.client = y.client
  · have e1 : (x.client == y.client) = true := by simpa using h1
    by_cases h2 : x.seq = y.seq
    · have e2 : (x.seq == y.seq) = true := by simpa using h2
      repeat (first | ((first | refine zd ?_ | refine zx ?_ | refine zk ?_ | refine zl ?_ | refine zr ?_); refine zq ?_) | refine zs ?_ | refine zh (by simp -implicitDefEqProofs (disch := (first | omega | (simp; done) | fail)) [if_pos, if_neg, wrap_i64, tmod_pos, tdiv_pos, Int.toNat_add, e1, e2]; rfl) ?_ | refine zb ?_ | refine zo ?_ | refine zt ?_ | refine zf ?_)
      refine goes_callS (callable_of Tryz.func23) (by simp -implicitDefEqProofs (disch := (first | omega | (simp; done) | fail)) [if_pos, if_neg, wrap_i64, tmod_pos, tdiv_pos, Int.toNat_add, Reply.c, str_s] <;> first | rfl | omega) _ (sameReply_ok x.reply y.reply hx hy _) ?_
      rintro _ h1 ⟨rfl, rfl⟩
      refine goes_eq (by simp -implicitDefEqProofs (disch := (first | omega | (simp; done) | fail)) [if_pos, if_neg, wrap_i64, tmod_pos, tdiv_pos, Int.toNat_add, e1, e2]; rfl) ?_
      repeat (first | ((first | refine zd ?_ | refine zx ?_ | refine zk ?_ | refine zl ?_ | refine zr ?_); refine zq ?_) | refine zs ?_ | refine zg ?_ | refine zb ?_ | refine zo ?_ | refine zt ?_ | refine zf ?_)
      first | refine zy (.inr rfl) ?_ | refine zy (.inl rfl) ?_
      cases x; cases y
      simp at h1 h2 ⊢
      simp [h1, h2]
    · have e2 : (x.seq == y.seq) = false := by simpa using h2
      repeat (first | ((first | refine zd ?_ | refine zx ?_ | refine zk ?_ | refine zl ?_ | refine zr ?_); refine zq ?_) | refine zs ?_ | refine zh (by simp -implicitDefEqProofs (disch := (first | omega | (simp; done) | fail)) [if_pos, if_neg, wrap_i64, tmod_pos, tdiv_pos, Int.toNat_add, e1, e2]; rfl) ?_ | refine zb ?_ | refine zo ?_ | refine zt ?_ | refine zf ?_)
      first | refine zy (.inr rfl) ?_ | refine zy (.inl rfl) ?_
      cases x; cases y
      simp at h2 ⊢
      simp [h2]
  · have e1 : (x.client == y.client) = false := by simpa using h1
    repeat (first | ((first | refine zd ?_ | refine zx ?_ | refine zk ?_ | refine zl ?_ | refine zr ?_); refine zq ?_) | refine zs ?_ | refine zh (by simp -implicitDefEqProofs (disch := (first | omega | (simp; done) | fail)) [if_pos, if_neg, wrap_i64, tmod_pos, tdiv_pos, Int.toNat_add, e1]; rfl) ?_ | refine zb ?_ | refine zo ?_ | refine zt ?_ | refine zf ?_)
    first | refine zy (.inr rfl) ?_ | refine zy (.inl rfl) ?_
    cases x; cases y
    simp at h1 ⊢
    simp [h1]
def Names (l : List Sess) : Prop := ∀ x ∈ l, x.reply.names.length ≤ 1000000
theorem equalF_ok (a b : List Sess) (ta tb : Tok) (na : Names a) (nb : Names b) (hl : a.length ≤ 1000000) (hl2 : b.length ≤ 1000000) (h : AHeap) : ACalls Tryz.prog 26 [.list (a.map Sess.av) ta, .list (b.map Sess.av) tb, .func (.func 22) [] []] h fun r h' => r = .bool (decide (a = b)) ∧ h' = h := by
  refine acalls_of_awp Tryz.func26 rfl (by simp only [List.length_cons, List.length_nil]; decide) ?_
  simp only [params_cons, params_nil]
  by_cases h1 : a.length = b.length
  · have e1 : ((a.length : Int) != (b.length : Int)) = false := by simp; omega
    repeat (first | ((first | refine zd ?_ | refine zx ?_ | refine zk ?_ | refine zl ?_ | refine zr ?_); refine zq ?_) | refine zs ?_ | refine zh (by simp -implicitDefEqProofs (disch := (first | omega | (simp; done) | fail)) [if_pos, if_neg, wrap_i64, tmod_pos, tdiv_pos, Int.toNat_add, e1, sesl_uni, Sess.av, Sess.c, AV.cells]; rfl) ?_ | refine zb ?_ | refine zo ?_ | refine zt ?_ | refine zf ?_)
    refine awp_loop (fun k st => ∃ (i : Nat) (X : AHeap), k = a.length - i ∧ i ≤ a.length ∧ (∀ j, j < i → a[j]? = b[j]?) ∧ st.le ⟨Tryz.f26.ntmps, [(0, .list (a.map Sess.av) ta), (1, .list (b.map Sess.av) tb), (2, .func (.func 22) [] []), (15, .list (a.map Sess.av) ta), (16, .int .i64 a.length), (17, .int .i64 i)], h ++ X⟩) a.length ?_ ?_
    rotate_left
    · rintro k st ⟨i, X, rfl, hi, he, hle⟩
      refine awp_le hle ?_
      repeat (first | ((first | refine zd ?_ | refine zx ?_ | refine zk ?_ | refine zl ?_ | refine zr ?_); refine zq ?_) | refine zs ?_ | refine zg ?_ | refine zb ?_ | refine zo ?_ | refine zt ?_ | refine zf ?_)
      refine awp_cond rfl (fun h2 => ?_) (fun h2 => ?_)
      · simp at h2
        obtain ⟨x, hx⟩ : ∃ x, a[i]? = some x := ⟨a[i]'(by omega), by rw [List.getElem?_eq_getElem]⟩
        obtain ⟨y, hy⟩ : ∃ y, b[i]? = some y := ⟨b[i]'(by omega), by rw [List.getElem?_eq_getElem]⟩
        have hx2 : (a.map Sess.av)[i]? = some (Sess.av x) := by simp [hx]
        have hy2 : (b.map Sess.av)[i]? = some (Sess.av y) := by simp [hy]
        have hi1 : i + 1 ≤ a.length := by omega
        have hi0 : (i : Int) + 1 ≤ 1000001 := by omega
        have h21 : a.length - (i + 1) < a.length - i := by omega
        have nx := na x (List.mem_of_getElem? hx)
        have ny := nb y (List.mem_of_getElem? hy)
        clear h2
        repeat (first | ((first | refine zd ?_ | refine zx ?_ | refine zk ?_ | refine zl ?_ | refine zr ?_); refine zq ?_) | refine zs ?_ | refine zh (by simp -implicitDefEqProofs (disch := (first | omega | (simp; done) | fail)) [if_pos, if_neg, wrap_i64, tmod_pos, tdiv_pos, Int.toNat_add, hx2, hy2, sesl_uni, Sess.av, Sess.c, AV.cells]; rfl) ?_ | refine zb ?_ | refine zo ?_ | refine zt ?_ | refine zf ?_)
        refine goes_callS (callable_of Tryz.func22) (by simp -implicitDefEqProofs (disch := (first | omega | (simp; done) | fail)) [if_pos, if_neg, wrap_i64, tmod_pos, tdiv_pos, Int.toNat_add, Sess.c, str_s] <;> first | rfl | omega) _ (sameS_ok x y nx ny _) ?_
        rintro _ h3 ⟨rfl, rfl⟩
        by_cases hxy : x = y
        · subst hxy
          refine ze ?_
          repeat (first | ((first | refine zd ?_ | refine zx ?_ | refine zk ?_ | refine zl ?_ | refine zr ?_); refine zq ?_) | refine zs ?_ | refine zg ?_ | refine zb ?_ | refine zo ?_ | refine zt ?_ | refine zf ?_)
          exact ⟨a.length - (i + 1), h21, i + 1, X ++ [.cells x.c, .cells x.c], rfl, hi1, upto_next he hx hy, st_keep' (by simp [Sess.c]) (by simp [Sess.c])⟩
        · have hab : a ≠ b := fun e => hxy (by subst e; rw [hx] at hy; injection hy)
          have e3 : decide (x = y) = false := by simpa using hxy
          refine goes_eq (by simp -implicitDefEqProofs (disch := (first | omega | (simp; done) | fail)) [if_pos, if_neg, wrap_i64, tmod_pos, tdiv_pos, Int.toNat_add, e3]; rfl) ?_
          repeat (first | ((first | refine zd ?_ | refine zx ?_ | refine zk ?_ | refine zl ?_ | refine zr ?_); refine zq ?_) | refine zs ?_ | refine zg ?_ | refine zb ?_ | refine zo ?_ | refine zt ?_ | refine zf ?_)
          first | refine zy (.inr rfl) ?_ | refine zy (.inl rfl) ?_
          simp [hab]
      · simp at h2
        have hab : a = b := ext_upto h1 (by omega) he
        repeat (first | ((first | refine zd ?_ | refine zx ?_ | refine zk ?_ | refine zl ?_ | refine zr ?_); refine zq ?_) | refine zs ?_ | refine zg ?_ | refine zb ?_ | refine zo ?_ | refine zt ?_ | refine zf ?_)
        first | refine zy (.inr rfl) ?_ | refine zy (.inl rfl) ?_
        simp [hab]
    · exact ⟨0, [], rfl, by omega, fun j hj => by omega, by simpa using st_keep' (by simp []) (by simp [])⟩
  · have e1 : ((a.length : Int) != (b.length : Int)) = true := by simp; omega
    have e2 : a ≠ b := fun e => h1 (by rw [e])
    repeat (first | ((first | refine zd ?_ | refine zx ?_ | refine zk ?_ | refine zl ?_ | refine zr ?_); refine zq ?_) | refine zs ?_ | refine zh (by simp -implicitDefEqProofs (disch := (first | omega | (simp; done) | fail)) [if_pos, if_neg, wrap_i64, tmod_pos, tdiv_pos, Int.toNat_add, e1]; rfl) ?_ | refine zb ?_ | refine zo ?_ | refine zt ?_ | refine zf ?_)
    first | refine zY (.inr rfl) ?_ | refine zY (.inl rfl) ?_
    simp [e2]
structure _root_.Go.Proofs.YtdncoobpdllpkaaGreat.D.Snap.Lit (x : Snap) : Prop where
  nodes : x.nodes.length ≤ 1000000
  paths : x.paths.length ≤ 1000000
  sessions : x.sessions.length ≤ 1000000
  names : Names x.sessions
theorem same_ok (x y : Snap) (hx : x.Lit) (hy : y.Lit) (h : AHeap) : ACalls Tryz.prog 11 [.agg x.c, .agg y.c] h fun r h' => r = .bool (decide (x = y)) ∧ h' = h := by
  obtain ⟨x1, x2, x3, x4⟩ := hx
  obtain ⟨y1, y2, y3, y4⟩ := hy
  unfold Snap.c
  refine acalls_of_awp Tryz.func11 rfl (by simp only [List.length_cons, List.length_nil]; decide) ?_
  simp only [params_cons, params_nil]
  repeat (first | ((first | refine zd ?_ | refine zx ?_ | refine zk ?_ | refine zl ?_ | refine zr ?_); refine zq ?_) | refine zs ?_ | refine zh (by simp -implicitDefEqProofs (disch := (first | omega | (simp; done) | fail)) [if_pos, if_neg, wrap_i64, tmod_pos, tdiv_pos, Int.toNat_add, entv_s, sesv_s, iv_s]; rfl) ?_ | refine zb ?_ | refine zo ?_ | refine zt ?_ | refine zf ?_)
  refine goes_callS (callable_of Tryz.func24) (by simp -implicitDefEqProofs (disch := (first | omega | (simp; done) | fail)) [if_pos, if_neg, wrap_i64, tmod_pos, tdiv_pos, Int.toNat_add, C.cv, iv_s] <;> first | rfl | omega) _ (C.same_ok x.epoch y.epoch x.nodes y.nodes x1 y1 _) ?_
  rintro _ h1 ⟨rfl, rfl⟩
  by_cases h1 : x.epoch = y.epoch ∧ x.nodes = y.nodes
  · have e1 : decide (x.epoch = y.epoch ∧ x.nodes = y.nodes) = true := by simpa using h1
    refine goes_eq (by simp -implicitDefEqProofs (disch := (first | omega | (simp; done) | fail)) [if_pos, if_neg, wrap_i64, tmod_pos, tdiv_pos, Int.toNat_add, e1]; rfl) ?_
    refine goes_callS (callable_of Tryz.func25) (by simp -implicitDefEqProofs (disch := (first | omega | (simp; done) | fail)) [if_pos, if_neg, wrap_i64, tmod_pos, tdiv_pos, Int.toNat_add, entv_s] <;> first | rfl | omega) _ (equalE_ok x.paths y.paths .no .no x2 y2 _) ?_
    rintro _ h1 ⟨rfl, rfl⟩
    by_cases h2 : x.paths = y.paths
    · have e2 : decide (x.paths = y.paths) = true := by simpa using h2
      refine goes_eq (by simp -implicitDefEqProofs (disch := (first | omega | (simp; done) | fail)) [if_pos, if_neg, wrap_i64, tmod_pos, tdiv_pos, Int.toNat_add, e1, e2]; rfl) ?_
      refine goes_callS (callable_of Tryz.func26) (by simp -implicitDefEqProofs (disch := (first | omega | (simp; done) | fail)) [if_pos, if_neg, wrap_i64, tmod_pos, tdiv_pos, Int.toNat_add, sesv_s] <;> first | rfl | omega) _ (equalF_ok x.sessions y.sessions .no .no x4 y4 x3 y3 _) ?_
      rintro _ h1 ⟨rfl, rfl⟩
      refine goes_eq (by simp -implicitDefEqProofs (disch := (first | omega | (simp; done) | fail)) [if_pos, if_neg, wrap_i64, tmod_pos, tdiv_pos, Int.toNat_add, e1, e2]; rfl) ?_
      repeat (first | ((first | refine zd ?_ | refine zx ?_ | refine zk ?_ | refine zl ?_ | refine zr ?_); refine zq ?_) | refine zs ?_ | refine zg ?_ | refine zb ?_ | refine zo ?_ | refine zt ?_ | refine zf ?_)
      first | refine zy (.inr rfl) ?_ | refine zy (.inl rfl) ?_
      cases x; cases y
      simp at h1 h2 ⊢
      simp [h1, h2]
    · have e2 : decide (x.paths = y.paths) = false := by simpa using h2
      refine goes_eq (by simp -implicitDefEqProofs (disch := (first | omega | (simp; done) | fail)) [if_pos, if_neg, wrap_i64, tmod_pos, tdiv_pos, Int.toNat_add, e1, e2]; rfl) ?_
      repeat (first | ((first | refine zd ?_ | refine zx ?_ | refine zk ?_ | refine zl ?_ | refine zr ?_); refine zq ?_) | refine zs ?_ | refine zg ?_ | refine zb ?_ | refine zo ?_ | refine zt ?_ | refine zf ?_)
      first | refine zy (.inr rfl) ?_ | refine zy (.inl rfl) ?_
      cases x; cases y
      simp at h2 ⊢
      simp [h2]
  · have e1 : decide (x.epoch = y.epoch ∧ x.nodes = y.nodes) = false := by simpa using h1
    refine goes_eq (by simp -implicitDefEqProofs (disch := (first | omega | (simp; done) | fail)) [if_pos, if_neg, wrap_i64, tmod_pos, tdiv_pos, Int.toNat_add, e1]; rfl) ?_
    repeat (first | ((first | refine zd ?_ | refine zx ?_ | refine zk ?_ | refine zl ?_ | refine zr ?_); refine zq ?_) | refine zs ?_ | refine zg ?_ | refine zb ?_ | refine zo ?_ | refine zt ?_ | refine zf ?_)
    first | refine zy (.inr rfl) ?_ | refine zy (.inl rfl) ?_
    cases x; cases y
    simp at h1 ⊢
    intro a b; exact absurd b (h1 a)
end Go.Proofs.YtdncoobpdllpkaaGreat.Q

/- Maps of instances: a copy; what is in one, in plain words. -/
set_option linter.unusedVariables false
set_option linter.unusedSimpArgs false
set_option maxRecDepth 20000
namespace Go.Proofs.YtdncoobpdllpkaaGreat.Q
open Go Go.Proofs.YtdncoobpdllpkaaGreat.V Go.Proofs.YtdncoobpdllpkaaGreat.N Go.Proofs.YtdncoobpdllpkaaGreat.D Go.RowKit
theorem cloned_map {w0 w : World} {g : Ghost} {h : AHeap} (S : Sim w0 g h w) {id b clock : Nat} {es : List (AV × AV × Nat)} {ces : Array MapEntry} (ho : h[id]? = some (.map es clock)) (hb : g.at_ id = .blk b) (hc : w.heap[b]? = some (.map ces clock)) :
    g.le (g.push (.blk w.heap.size)) ∧ Sim w0 (g.push (.blk w.heap.size)) (h ++ [.map es clock]) (w.alloc (.map ces clock)) ∧ VRel (g.push (.blk w.heap.size)) (.map h.length) (.map (some w.heap.size)) := by
  have S1 := S.keep (alloc_below w (.map ces clock))
  have l := Ghost.push_le g (.blk w.heap.size)
  obtain ⟨h1, h2⟩ := ent_rel S ho hb hc
  refine ⟨l, S1.push ⟨S.below.size, ces, heap_alloc_new w _, h1, fun i a b => ⟨(h2 i a b).1.mono l, (h2 i a b).2.1.mono l, (h2 i a b).2.2⟩⟩ (fun id o' ho hd b hb e => ?_) (fun b hb => ?_), ?_⟩
  · injection hb with hb
    subst hb
    exact S.fresh (Nat.le_refl _) id o' ho hd e
  · injection hb with hb
    subst hb
    exact S.fresh_pin (Nat.le_refl _)
  · refine .map _ _ ?_ ?_
    · rw [S.n]; exact Nat.lt_succ_self _
    · rw [S.n]; exact Ghost.push_at g _
theorem clone_ok (id clock : Nat) (es : List (AV × AV × Nat)) (h : AHeap) (ho : h[id]? = some (.map es clock)) : ACalls Tryz.prog 37 [.map id] h fun r h' => r = .map h.length ∧ h' = h ++ [.map es clock] := fun w0 g w vs hv S => by
  obtain ⟨v, rfl, hva⟩ := vals_one hv
  obtain ⟨hid, b, hb, rfl⟩ := map_eq hva
  obtain ⟨_, ces, hc, _⟩ := map_block S ho hb
  have hcall : Calls Tryz.prog 37 _ _ _ := AnyW.maps_Clone (P := Tryz.prog) Tryz.cloneL b ces clock w hc
  refine hcall.mono ?_
  rintro e w' ⟨rfl, rfl⟩
  obtain ⟨l, S', r'⟩ := cloned_map S ho hb hc
  exact ⟨_, _, _, _, rfl, l, r', S', rfl, rfl⟩
/-! What is in one. -/
def getE (k : Iid) (es : Ents Iid) : Option AV := (keyAt k es).bind fun j => es[j]?.map (·.2.1)
def getM (k : Iid) (M : List (Iid × Inst)) : Option Inst := (M.find? fun p => decide (p.1 = k)).map (·.2)
structure Rep (es : Ents Iid) (M : List (Iid × Inst)) : Prop where
  len : es.length = M.length
  at_ : ∀ k, getE k es = (getM k M).map fun x => .agg x.c
theorem Rep.nil : Rep [] [] := ⟨rfl, fun k => rfl⟩
theorem getE_isSome (k : Iid) (es : Ents Iid) : (getE k es).isSome = (keyAt k es).isSome := by
  unfold getE
  cases h : keyAt k es with
  | none => rfl
  | some j =>
    obtain ⟨hj, _⟩ := keyAt_some h
    simp [hj]
theorem keyAt_app (k : Iid) (p : Iid × AV × Nat) : ∀ es : Ents Iid, keyAt k (es ++ [p]) = match keyAt k es with
    | some j => some j
    | none => if p.1 = k then some es.length else none
  | [] => by simp [keyAt]
  | q :: es => by
    rw [List.cons_append]
    unfold keyAt
    rw [keyAt_app k p es]
    by_cases h : q.1 = k
    · simp [h]
    · simp only [h, if_false]
      cases keyAt k es with
      | some j => rfl
      | none => by_cases h2 : p.1 = k <;> simp [h2]
theorem keyAt_modify (k : Iid) (f : AV → AV) : ∀ (es : Ents Iid) (j : Nat), keyAt k (es.modify j fun p => (p.1, f p.2.1, p.2.2)) = keyAt k es
  | [], j => by cases j <;> rfl
  | q :: es, 0 => by simp [keyAt]
  | q :: es, j + 1 => by
    rw [List.modify_succ_cons]
    unfold keyAt
    rw [keyAt_modify k f es j]
theorem getE_put (k k' : Iid) (x : AV) (c : Nat) (es : Ents Iid) : getE k (putE k' x c es) = if k' = k then some x else getE k es := by
  unfold getE putE
  cases h : keyAt k' es with
  | none =>
    simp only
    rw [keyAt_app]
    by_cases e : k' = k
    · subst e
      rw [h]
      simp
    · rw [if_neg e]
      cases h2 : keyAt k es with
      | none => simp [e]
      | some j =>
        obtain ⟨hj, _⟩ := keyAt_some h2
        simp [hj, e, List.getElem?_append_left hj]
  | some j =>
    simp only
    obtain ⟨hj, hk⟩ := keyAt_some h
    rw [keyAt_modify k (fun _ => x) es j]
    by_cases e : k' = k
    · subst e
      rw [h]
      simp [hj]
    · rw [if_neg e]
      cases h2 : keyAt k es with
      | none => rfl
      | some i =>
        obtain ⟨hi, hk2⟩ := keyAt_some h2
        have hij : j ≠ i := fun he => by subst he; exact e (hk.symm.trans hk2)
        simp [List.getElem?_modify, hij, Function.comp_def]
def putM : List (Iid × Inst) → Iid → Inst → List (Iid × Inst)
  | [], k, x => [(k, x)]
  | p :: M, k, x => if k = p.1 then (k, x) :: M else if I.lessB k p.1 then (k, x) :: p :: M else p :: putM M k x
def MRis (M : List (Iid × Inst)) : Prop := I.Ris (M.map (·.1))
theorem putM_keys (k : Iid) (x : Inst) : ∀ M : List (Iid × Inst), (putM M k x).map (·.1) = I.putS (M.map (·.1)) k
  | [] => rfl
  | p :: M => by
    unfold putM
    rw [List.map_cons]
    unfold I.putS
    by_cases h : k = p.1
    · simp [h]
    · by_cases h2 : I.lessB k p.1 = true
      · simp [h, h2]
      · simp [h, h2, putM_keys k x M]
theorem putM_ris {M : List (Iid × Inst)} (k : Iid) (x : Inst) (h : MRis M) : MRis (putM M k x) := by
  unfold MRis
  rw [putM_keys]
  exact I.putS_ris k h
theorem clean_put {M : List (Iid × Inst)} (k : Iid) (x : Inst) (h : MRis M) : I.clean (M.map (·.1) ++ [k]) = (putM M k x).map (·.1) := by
  rw [putM_keys]
  refine I.ris_unique (I.clean_ris _) (I.putS_ris k h) fun j => ?_
  rw [I.clean_mem, I.putS_mem]
  simp [or_comm]
theorem getM_put (k k' : Iid) (x : Inst) : ∀ M : List (Iid × Inst), getM k (putM M k' x) = if k' = k then some x else getM k M
  | [] => by by_cases h : k' = k <;> simp [putM, getM, h]
  | p :: M => by
    have ih := getM_put k k' x M
    unfold putM
    by_cases h1 : k' = p.1
    · simp only [h1, if_true]
      by_cases h2 : p.1 = k <;> simp [getM, h2]
    · simp only [h1, if_false]
      by_cases h3 : I.lessB k' p.1 = true
      · simp only [h3, if_true]
        by_cases h2 : k' = k <;> simp [getM, h2]
      · simp only [h3]
        by_cases h4 : p.1 = k
        · have : ¬ k' = k := fun e => h1 (e.trans h4.symm)
          simp [getM, h4, this]
        · unfold getM at ih ⊢
          simp [h4]
          simpa using ih
theorem getM_none {k : Iid} {M : List (Iid × Inst)} (h : ∀ p ∈ M, p.1 ≠ k) : getM k M = none := by
  unfold getM
  rw [Option.map_eq_none_iff, List.find?_eq_none]
  intro p hp
  simpa using h p hp
theorem putM_len (k : Iid) (x : Inst) : ∀ {M : List (Iid × Inst)}, MRis M → (putM M k x).length = if (getM k M).isSome then M.length else M.length + 1
  | [], h => rfl
  | p :: M, h => by
    obtain ⟨h1, h2⟩ := List.pairwise_cons.1 (show List.Pairwise _ (p.1 :: M.map (·.1)) from h)
    have ih := putM_len k x (M := M) h2
    unfold putM
    by_cases e : k = p.1
    · subst e
      simp [getM]
    · simp only [e, if_false]
      by_cases h3 : I.lessB k p.1 = true
      · simp only [h3, if_true]
        have hn : getM k (p :: M) = none := getM_none fun q hq => by
          rcases List.mem_cons.1 hq with rfl | hq
          · exact fun h => e h.symm
          · intro he
            have h4 := h1 q.1 (List.mem_map.2 ⟨q, hq, rfl⟩)
            rw [he] at h4
            simp only [I.lessB, decide_eq_true_eq] at h3 h4
            omega
        rw [hn]; simp
      · simp only [h3]
        have : getM k (p :: M) = getM k M := by
          unfold getM
          have : ¬ p.1 = k := fun h => e h.symm
          simp [this]
        rw [this]
        simp only [if_false, List.length_cons, Bool.false_eq_true, ih]
        split <;> rfl
theorem Rep.put {es : Ents Iid} {M : List (Iid × Inst)} (r : Rep es M) (hM : MRis M) (k : Iid) (x : Inst) (c : Nat) : Rep (putE k (.agg x.c) c es) (putM M k x) := by
  refine ⟨?_, fun j => ?_⟩
  · rw [putM_len k x hM]
    have h1 : (getE k es).isSome = (getM k M).isSome := by rw [r.at_ k]; simp
    rw [getE_isSome] at h1
    rw [← h1, ← r.len]
    unfold putE
    cases keyAt k es with
    | none => simp
    | some j => simp
  · rw [getE_put, getM_put]
    by_cases e : k = j
    · simp [e]
    · simp [e, r.at_ j]
end Go.Proofs.YtdncoobpdllpkaaGreat.Q

/- What a node knows: a record more. -/
set_option linter.unusedVariables false
set_option linter.unusedSimpArgs false
set_option maxRecDepth 20000
namespace Go.Proofs.YtdncoobpdllpkaaGreat.Q
open Go Go.Proofs.YtdncoobpdllpkaaGreat.V Go.Proofs.YtdncoobpdllpkaaGreat.N Go.Proofs.YtdncoobpdllpkaaGreat.D Go.RowKit
abbrev SM := Snap × List (Iid × Inst)
def sv (x : Snap) (L : List Iid) (mid : Nat) : AV := .agg [iv x.epoch, .list (x.nodes.map iv) .no, .list (x.paths.map Entry.av) .no, .list (x.sessions.map Sess.av) .no, .list (L.map Iid.av) .no, .map mid]
def stv (s : SM) (mid : Nat) : AV := sv s.1 (s.2.map (·.1)) mid
def Stt (h : AHeap) (s : SM) (mid : Nat) : Prop := ∃ es clock, h[mid]? = some (mapO Iid.av es clock) ∧ Rep es s.2
theorem begin_ok (x : Snap) (h : AHeap) : ACalls Tryz.prog 16 [.agg x.c] h fun r h' => r = sv x [] (h.length + 2) ∧ ∃ c1 c2, h' = h ++ [c1, c2, mapO Iid.av [] 0] := by
  unfold Snap.c
  refine acalls_of_awp Tryz.func16 rfl (by simp only [List.length_cons, List.length_nil]; decide) ?_
  simp only [params_cons, params_nil]
  refine awp_seq ?_
  refine zh (by simp -implicitDefEqProofs (disch := (first | omega | (simp; done) | fail)) [if_pos, if_neg, wrap_i64, tmod_pos, tdiv_pos, Int.toNat_add, entv_s, sesv_s, iv_s]; rfl) ?_
  refine goes_done ?_
  (try simp only [vq, if_true, reduceIte, Nat.reduceEqDiff, reduceCtorEq])
  refine awp_seq ?_
  refine awp_region_at 1 rfl rfl ?_
  refine zn ?_
  refine goes_done ?_
  refine aops_makeMap rfl rfl ?_
  refine aops_end ?_
  refine zn ?_
  refine goes_done ?_
  simp only [vq, if_true, reduceIte, Nat.reduceEqDiff, reduceCtorEq]
  repeat (first | ((first | refine zd ?_ | refine zx ?_ | refine zk ?_ | refine zl ?_ | refine zr ?_); refine zq ?_) | refine zs ?_ | refine zg ?_ | refine zb ?_ | refine zo ?_ | refine zt ?_ | refine zf ?_)
  first | refine body_all (.inr rfl) (by simp -implicitDefEqProofs; rfl) (by simp -implicitDefEqProofs; rfl) (by first | (simp; done) | (simp; omega) | omega) ?_ | refine body_all (.inl rfl) (by simp -implicitDefEqProofs; rfl) (by simp -implicitDefEqProofs; rfl) (by first | (simp; done) | (simp; omega) | omega) ?_
  simp [sv, mapO]
def addS (s : SM) (r : Rec) : SM :=
  if r.sl = true then if C.validB r.snap.epoch r.snap.nodes = true ∧ s.1.epoch < r.snap.epoch then (r.snap, []) else s
  else if r.id.e = s.1.epoch then (s.1, putM s.2 r.id r.inst) else s
theorem add_ok (s : SM) (r : Rec) (mid : Nat) (h : AHeap) (hs : Stt h s mid) (hM : MRis s.2) (hl : s.2.length ≤ 9999) (hn : r.snap.nodes.length ≤ 1000000) : ACalls Tryz.prog 14 [stv s mid, .agg r.c] h fun v h' => ∃ X mid', v = stv (addS s r) mid' ∧ h' = h ++ X ∧ Stt h' (addS s r) mid' := by
  have hs0 := hs
  obtain ⟨es, clock, ho, hR⟩ := hs
  have hbm : Bel h.length (.map mid) := .map _ (List.getElem?_eq_some_iff.1 ho).1
  have same : addS s r = s → (∃ X mid', stv s mid = stv (addS s r) mid' ∧ h = h ++ X ∧ Stt h (addS s r) mid') := fun e => ⟨[], mid, by rw [e], by simp, by rw [e]; exact hs0⟩
  unfold stv at *
  have hcl := clean_put r.id r.inst hM
  obtain ⟨L, hL⟩ : ∃ L, L = s.2.map (·.1) := ⟨_, rfl⟩
  have hLl : L.length ≤ 10000 := by rw [hL]; simp; omega
  rw [← hL] at hcl same ⊢
  unfold sv Rec.c
  refine acalls_of_awp Tryz.func14 rfl (by simp only [List.length_cons, List.length_nil]; decide) ?_
  simp only [params_cons, params_nil]
  cases hsl : r.sl with
  | true =>
    repeat (first | ((first | refine zd ?_ | refine zx ?_ | refine zk ?_ | refine zl ?_ | refine zr ?_); refine zq ?_) | refine zs ?_ | refine zh (by simp -implicitDefEqProofs (disch := (first | omega | (simp; done) | fail)) [if_pos, if_neg, wrap_i64, tmod_pos, tdiv_pos, Int.toNat_add, entv_s, sesv_s, iv_s, idv_s, hsl]; rfl) ?_ | refine zb ?_ | refine zo ?_ | refine zt ?_ | refine zf ?_)
    refine goes_callS (callable_of Tryz.func36) (by simp -implicitDefEqProofs (disch := (first | omega | (simp; done) | fail)) [if_pos, if_neg, wrap_i64, tmod_pos, tdiv_pos, Int.toNat_add, C.cv, iv_s] <;> first | rfl | omega) _ (C.valid_ok r.snap.epoch r.snap.nodes hn _) ?_
    rintro _ _ ⟨rfl, rfl⟩
    by_cases hv : C.validB r.snap.epoch r.snap.nodes = true
    · by_cases he : s.1.epoch < r.snap.epoch
      · refine goes_eq (by simp -implicitDefEqProofs (disch := (first | omega | (simp; done) | fail)) [if_pos, if_neg, wrap_i64, tmod_pos, tdiv_pos, Int.toNat_add, hv, he]; rfl) ?_
        repeat (first | ((first | refine zd ?_ | refine zx ?_ | refine zk ?_ | refine zl ?_ | refine zr ?_); refine zq ?_) | refine zs ?_ | refine zh (by simp -implicitDefEqProofs (disch := (first | omega | (simp; done) | fail)) [if_pos, if_neg, wrap_i64, tmod_pos, tdiv_pos, Int.toNat_add, hv, he]; rfl) ?_ | refine zb ?_ | refine zo ?_ | refine zt ?_ | refine zf ?_)
        refine goes_callS (callable_of Tryz.func16) (by simp -implicitDefEqProofs (disch := (first | omega | (simp; done) | fail)) [if_pos, if_neg, wrap_i64, tmod_pos, tdiv_pos, Int.toNat_add, Snap.c, entv_s, sesv_s, iv_s] <;> first | rfl | omega) _ (begin_ok r.snap _) ?_
        rintro _ _ ⟨rfl, c1, c2, rfl⟩
        refine goes_eq (by simp -implicitDefEqProofs (disch := (first | omega | (simp; done) | fail)) [if_pos, if_neg, wrap_i64, tmod_pos, tdiv_pos, Int.toNat_add, sv]; rfl) ?_
        repeat (first | ((first | refine zd ?_ | refine zx ?_ | refine zk ?_ | refine zl ?_ | refine zr ?_); refine zq ?_) | refine zs ?_ | refine zh (by simp -implicitDefEqProofs (disch := (first | omega | (simp; done) | fail)) [if_pos, if_neg, wrap_i64, tmod_pos, tdiv_pos, Int.toNat_add, sv]; rfl) ?_ | refine zb ?_ | refine zo ?_ | refine zt ?_ | refine zf ?_)
        first | refine body_all (.inr rfl) (by simp -implicitDefEqProofs; rfl) (by simp -implicitDefEqProofs; rfl) (by first | (simp; done) | (simp; omega) | omega) ?_ | refine body_all (.inl rfl) (by simp -implicitDefEqProofs; rfl) (by simp -implicitDefEqProofs; rfl) (by first | (simp; done) | (simp; omega) | omega) ?_
        have e : addS s r = (r.snap, []) := by simp [addS, hsl, hv, he]
        rw [e]
        exact ⟨_, h.length + 3 + 2, rfl, rfl, [], 0, by rw [List.getElem?_append_right (by omega), show h.length + 3 + 2 - h.length = 5 by omega]; rfl, Rep.nil⟩
      · refine goes_eq (by simp -implicitDefEqProofs (disch := (first | omega | (simp; done) | fail)) [if_pos, if_neg, wrap_i64, tmod_pos, tdiv_pos, Int.toNat_add, hv, he]; rfl) ?_
        repeat (first | ((first | refine zd ?_ | refine zx ?_ | refine zk ?_ | refine zl ?_ | refine zr ?_); refine zq ?_) | refine zs ?_ | refine zh (by simp -implicitDefEqProofs (disch := (first | omega | (simp; done) | fail)) [if_pos, if_neg, wrap_i64, tmod_pos, tdiv_pos, Int.toNat_add, hv, he]; rfl) ?_ | refine zb ?_ | refine zo ?_ | refine zt ?_ | refine zf ?_)
        first | refine body_pure (.inr rfl) (by simp -implicitDefEqProofs; rfl) (by simp -implicitDefEqProofs; rfl) (by simp; exact hbm) ?_ | refine body_pure (.inl rfl) (by simp -implicitDefEqProofs; rfl) (by simp -implicitDefEqProofs; rfl) (by simp; exact hbm) ?_
        exact same (by simp [addS, hsl, he])
    · refine goes_eq (by simp -implicitDefEqProofs (disch := (first | omega | (simp; done) | fail)) [if_pos, if_neg, wrap_i64, tmod_pos, tdiv_pos, Int.toNat_add, hv]; rfl) ?_
      repeat (first | ((first | refine zd ?_ | refine zx ?_ | refine zk ?_ | refine zl ?_ | refine zr ?_); refine zq ?_) | refine zs ?_ | refine zh (by simp -implicitDefEqProofs (disch := (first | omega | (simp; done) | fail)) [if_pos, if_neg, wrap_i64, tmod_pos, tdiv_pos, Int.toNat_add, hv]; rfl) ?_ | refine zb ?_ | refine zo ?_ | refine zt ?_ | refine zf ?_)
      first | refine body_pure (.inr rfl) (by simp -implicitDefEqProofs; rfl) (by simp -implicitDefEqProofs; rfl) (by simp; exact hbm) ?_ | refine body_pure (.inl rfl) (by simp -implicitDefEqProofs; rfl) (by simp -implicitDefEqProofs; rfl) (by simp; exact hbm) ?_
      exact same (by simp [addS, hsl, hv])
  | false =>
    by_cases he : r.id.e = s.1.epoch
    · have e1 : (r.id.e != s.1.epoch) = false := by simpa using he
      repeat (first | ((first | refine zd ?_ | refine zx ?_ | refine zk ?_ | refine zl ?_ | refine zr ?_); refine zq ?_) | refine zs ?_ | refine zh (by simp -implicitDefEqProofs (disch := (first | omega | (simp; done) | fail)) [if_pos, if_neg, wrap_i64, tmod_pos, tdiv_pos, Int.toNat_add, entv_s, sesv_s, iv_s, idv_s, hsl, e1]; rfl) ?_ | refine zb ?_ | refine zo ?_ | refine zt ?_ | refine zf ?_)
      refine zp (callable_of Tryz.func37) _ (clone_ok mid clock _ _ (by rw [List.getElem?_append_left (List.getElem?_eq_some_iff.1 ho).1]; exact ho)) ?_
      rintro _ _ ⟨rfl, rfl⟩
      refine ze ?_
      refine goes_done ?_
      (try simp only [vq, if_true, reduceIte, Nat.reduceEqDiff, reduceCtorEq])
      refine awp_seq ?_
      refine awp_seq ?_
      refine zg ?_
      refine goes_done ?_
      (try simp only [vq, if_true, reduceIte, Nat.reduceEqDiff, reduceCtorEq])
      refine awp_cond_f rfl ?_
      refine awp_skip ?_
      (try simp only [vq, if_true, reduceIte, Nat.reduceEqDiff, reduceCtorEq])
      refine awp_seq ?_
      refine awp_region_at 5 rfl rfl ?_
      refine zn ?_
      refine goes_done ?_
      refine aops_put (id := h.length + 3) (es := es) (clock := clock) (k := r.id) (v := .agg r.inst.c) I.iid_key rfl rfl rfl Tryz.underlying35 rfl rfl rfl (by simp [mapO]) ?_
      refine aops_end ?_
      refine zn ?_
      refine goes_done ?_
      simp only [vq, if_true, reduceIte, Nat.reduceEqDiff, reduceCtorEq]
      have hR2 := hR.put hM r.id r.inst clock
      generalize putE r.id (AV.agg r.inst.c) clock es = es2 at *
      generalize putC r.id clock es = clock2 at *
      refine awp_hard (id := h.length) (by simp -implicitDefEqProofs; rfl) ?_
      simp -implicitDefEqProofs only [Slots.melt, AV.melt, Nat.add_left_cancel_iff, Nat.add_eq_left, Nat.left_eq_add, Nat.reduceEqDiff, reduceIte, Nat.succ_ne_self, Nat.one_ne_zero, Nat.zero_ne_one, List.set_append_right, List.set_append_left, Nat.sub_self, Nat.le_refl, Nat.add_sub_cancel_left, Nat.le_add_right, List.set_cons_zero, List.set_cons_succ]
      refine awp_hard (id := h.length + 1) (by simp -implicitDefEqProofs; rfl) ?_
      simp -implicitDefEqProofs only [Slots.melt, AV.melt, Nat.add_left_cancel_iff, Nat.add_eq_left, Nat.left_eq_add, Nat.reduceEqDiff, reduceIte, Nat.succ_ne_self, Nat.one_ne_zero, Nat.zero_ne_one, List.set_append_right, List.set_append_left, Nat.sub_self, Nat.le_refl, Nat.add_sub_cancel_left, Nat.le_add_right, List.set_cons_zero, List.set_cons_succ]
      refine awp_seq ?_
      refine awp_draw (.q 0 (.q 1 (.q 2 (.q 3 (.q 4 (.q 5 (.q 8 (.a 6 (.a 7 (.q 9 (.a 10 (.done)))))))))))) (by kernel_rfl) (by kernel_rfl) (tree_start (goesT_eq (by simp -implicitDefEqProofs (disch := (first | omega | (simp; done) | fail)) [if_pos, if_neg, wrap_i64, tmod_pos, tdiv_pos, Int.toNat_add]; rfl) ?_))
      refine goesT_callS (callable_of Tryz.func38) (by simp -implicitDefEqProofs (disch := (first | omega | (simp; done) | fail)) [if_pos, if_neg, wrap_i64, tmod_pos, tdiv_pos, Int.toNat_add, Iid.av, Iid.c] <;> first | rfl | omega) _ (I.union_ok L [r.id] .no .no hLl (by simp) _) ?_
      rintro _ _ ⟨rfl, rfl⟩
      unfold I.lv
      rw [hcl]
      refine zE ?_
      refine goesT_done ?_
      (try simp only [vq, if_true, reduceIte, Nat.reduceEqDiff, reduceCtorEq])
      repeat (first | ((first | refine zd ?_ | refine zx ?_ | refine zk ?_ | refine zl ?_ | refine zr ?_); refine zq ?_) | refine zs ?_ | refine zg ?_ | refine zb ?_ | refine zo ?_ | refine zt ?_ | refine zf ?_)
      first | refine body_all (.inr rfl) (by simp -implicitDefEqProofs; rfl) (by simp -implicitDefEqProofs; rfl) (by first | (simp; done) | (simp; omega) | omega) ?_ | refine body_all (.inl rfl) (by simp -implicitDefEqProofs; rfl) (by simp -implicitDefEqProofs; rfl) (by first | (simp; done) | (simp; omega) | omega) ?_
      have e : addS s r = (s.1, putM s.2 r.id r.inst) := by simp [addS, hsl, he]
      rw [e]
      have e2 : AV.strip ∘ Iid.av ∘ (fun x : Iid × Inst => x.1) = Iid.av ∘ (fun x => x.1) := funext fun x => I.av_strip _
      refine ⟨_, h.length + 3, by simp [e2], rfl, es2, clock2, ?_, hR2⟩
      rw [List.getElem?_append_right (by omega), show h.length + 3 - h.length = 3 by omega]
      rfl
    · have e1 : (r.id.e != s.1.epoch) = true := by simpa using he
      repeat (first | ((first | refine zd ?_ | refine zx ?_ | refine zk ?_ | refine zl ?_ | refine zr ?_); refine zq ?_) | refine zs ?_ | refine zh (by simp -implicitDefEqProofs (disch := (first | omega | (simp; done) | fail)) [if_pos, if_neg, wrap_i64, tmod_pos, tdiv_pos, Int.toNat_add, entv_s, sesv_s, iv_s, idv_s, hsl, e1]; rfl) ?_ | refine zb ?_ | refine zo ?_ | refine zt ?_ | refine zf ?_)
      first | refine body_pure (.inr rfl) (by simp -implicitDefEqProofs; rfl) (by simp -implicitDefEqProofs; rfl) (by simp; exact hbm) ?_ | refine body_pure (.inl rfl) (by simp -implicitDefEqProofs; rfl) (by simp -implicitDefEqProofs; rfl) (by simp; exact hbm) ?_
      exact same (by simp [addS, hsl, he])
end Go.Proofs.YtdncoobpdllpkaaGreat.Q

/- What a node knows: what records tell. -/
set_option linter.unusedVariables false
set_option linter.unusedSimpArgs false
set_option maxRecDepth 20000
namespace Go.Proofs.YtdncoobpdllpkaaGreat.Q
open Go Go.Proofs.YtdncoobpdllpkaaGreat.V Go.Proofs.YtdncoobpdllpkaaGreat.N Go.Proofs.YtdncoobpdllpkaaGreat.D Go.RowKit
def byl (y : List UInt8) : AV := .list (y.map b8) .no
@[simp] theorem byl_s {y : List UInt8} : (byl y).strip = byl y := by simp [byl]
@[simp] theorem byl_comp : AV.strip ∘ byl = byl := funext fun _ => byl_s
@[simp] theorem byl_cells {y : List UInt8} : (byl y).cells = [byl y] := rfl
@[simp] theorem byl_one {y : List UInt8} : (byl y).one = true := rfl
@[simp] theorem byl_known {y : List UInt8} : (byl y).known = true := rfl
@[simp] theorem byl_bel {m : Nat} {y : List UInt8} : Bel m (byl y) := by simp [byl]
theorem byl_uni (l : List (List UInt8)) : uni 1 (l.map byl) = true := uni_map fun _ => rfl
def stc (s : SM) (mid : Nat) : List AV := [iv s.1.epoch, .list (s.1.nodes.map iv) .no, .list (s.1.paths.map Entry.av) .no, .list (s.1.sessions.map Sess.av) .no, .list ((s.2.map (·.1)).map Iid.av) .no, .map mid]
def stepS (s : SM) (b : List UInt8) : SM := if (whole rdRec .zero b).2 = 0 then addS s (whole rdRec .zero b).1 else s
def repS (s : SM) (ls : List (List UInt8)) : SM := ls.foldl stepS s
theorem Stt.app {h : AHeap} {s : SM} {mid : Nat} (hs : Stt h s mid) (X : AHeap) : Stt (h ++ X) s mid := by
  obtain ⟨es, c, ho, r⟩ := hs
  exact ⟨es, c, by rw [List.getElem?_append_left (List.getElem?_eq_some_iff.1 ho).1]; exact ho, r⟩
theorem Stt.box {h X : AHeap} {s : SM} {mid : Nat} {c c' : List AV} (hs : Stt (h ++ .cells c :: X) s mid) : Stt (h ++ .cells c' :: X) s mid := by
  obtain ⟨es, k, ho, r⟩ := hs
  refine ⟨es, k, ?_, r⟩
  by_cases h1 : mid < h.length
  · rw [List.getElem?_append_left h1] at ho ⊢; exact ho
  · rw [List.getElem?_append_right (by omega)] at ho ⊢
    cases hk : mid - h.length with
    | zero => rw [hk] at ho; simp [mapO] at ho
    | succ n => rw [hk] at ho; simpa using ho
theorem Stt.box2 {h X : AHeap} {a : AObj} {s : SM} {mid : Nat} {c c' : List AV} (hs : Stt (h ++ a :: .cells c :: X) s mid) : Stt (h ++ a :: .cells c' :: X) s mid := by
  have h1 : Stt ((h ++ [a]) ++ .cells c :: X) s mid := by simpa using hs
  simpa using h1.box (c' := c')
theorem addS_ris {s : SM} {r : Rec} (h : MRis s.2) : MRis (addS s r).2 := by
  unfold addS
  split
  · split
    · exact List.Pairwise.nil
    · exact h
  · split
    · exact putM_ris _ _ h
    · exact h
theorem putM_le (k : Iid) (x : Inst) : ∀ M : List (Iid × Inst), (putM M k x).length ≤ M.length + 1
  | [] => by simp [putM]
  | p :: M => by
    unfold putM
    have := putM_le k x M
    split
    · simp
    · split
      · simp
      · simp; omega
theorem addS_len (s : SM) (r : Rec) : (addS s r).2.length ≤ s.2.length + 1 := by
  unfold addS
  split
  · split
    · simp
    · omega
  · split
    · exact putM_le _ _ _
    · omega
/-- What the records tell may be looked at. -/
def Fit (b : List UInt8) : Prop := b.length ≤ 100000000 ∧ (whole rdRec .zero b).1.snap.nodes.length ≤ 1000000
@[local simp] theorem strip_keys : AV.strip ∘ Iid.av ∘ (fun x : Iid × Inst => x.1) = Iid.av ∘ (fun x => x.1) := funext fun x => I.av_strip _
def zc : List AV := [iv 0, .list [] .full, .list [] .full, .list [] .full, .list [] .full, .nilmap]
theorem fold_ok (s : SM) (mid bid : Nat) (tk : Tok) (ls : List (List UInt8)) (h : AHeap) (hb : h[bid]? = some (.cells [.list (ls.map byl) tk])) (hs : Stt h s mid) (hM : MRis s.2) (hl : s.2.length + ls.length ≤ 9999) (hf : ∀ b ∈ ls, Fit b) :
    ACalls Tryz.prog 15 [stv s mid, .func (.func 17) [] [.ptr bid 0]] h fun v h' => ∃ X mid', v = stv (repS s ls) mid' ∧ h' = h ++ X ∧ Stt h' (repS s ls) mid' ∧ MRis (repS s ls).2 := by
  have hblt := (List.getElem?_eq_some_iff.1 hb).1
  have hbx : ∀ x : AHeap, (h ++ x)[bid]? = some (.cells [.list (ls.map byl) tk]) := fun x => by rw [List.getElem?_append_left hblt]; exact hb
  unfold stv sv
  refine acalls_of_awp Tryz.func15 rfl (by simp only [List.length_cons, List.length_nil]; decide) ?_
  simp only [params_cons, params_nil]
  repeat (first | ((first | refine zd ?_ | refine zx ?_ | refine zk ?_ | refine zl ?_ | refine zr ?_); refine zq ?_) | refine zs ?_ | refine zh (by simp -implicitDefEqProofs (disch := (first | omega | (simp; done) | fail)) [if_pos, if_neg, wrap_i64, tmod_pos, tdiv_pos, Int.toNat_add, entv_s, sesv_s, iv_s, idv_s]; rfl) ?_ | refine zb ?_ | refine zo ?_ | refine zt ?_ | refine zf ?_)
  refine awp_rangeFunc rfl (by simp -implicitDefEqProofs; rfl) (callable_of Tryz.func17) (fun lp => acallsE_of_awp rfl Tryz.func17 rfl (by simp only [List.length_cons, List.length_nil]; decide) ?_)
  simp only [params_cons, params_nil]
  repeat (first | ((first | refine zd ?_ | refine zx ?_ | refine zk ?_ | refine zl ?_ | refine zr ?_); refine zq ?_) | refine zs ?_ | refine zh (by simp -implicitDefEqProofs (disch := (first | omega | (simp; done) | fail)) [if_pos, if_neg, wrap_i64, tmod_pos, tdiv_pos, Int.toNat_add, hbx]; rfl) ?_ | refine zb ?_ | refine zo ?_ | refine zt ?_ | refine zf ?_)
  refine awp_loop (fun z st => ∃ (i m : Nat) (X : AHeap), z = ls.length - i ∧ i ≤ ls.length ∧ Stt (h ++ (.cells (stc (repS s (ls.take i)) m) :: .cells zc :: X)) (repS s (ls.take i)) m ∧ MRis (repS s (ls.take i)).2 ∧ (repS s (ls.take i)).2.length ≤ s.2.length + i ∧ st.le ⟨Tryz.f17.ntmps, [(0, .func (.yield lp) [] []), (1, .ptr bid 0), (7, .list (ls.map byl) tk), (8, iv (ls.length : Nat)), (9, iv (i : Nat))], h ++ (.cells (stc (repS s (ls.take i)) m) :: .cells zc :: X)⟩) ls.length ?_ ?_
  rotate_left
  rintro z st ⟨i, m, X, rfl, hi, hS, hM2, hl2, hle⟩
  · refine awp_le hle ?_
    clear hle
    by_cases h9 : i = ls.length
    · subst h9
      have q : ¬ (ls.length : Int) < (ls.length : Int) := by omega
      rw [List.take_length] at *
      generalize repS s ls = s2 at *
      unfold stc zc at *
      repeat (first | ((first | refine zd ?_ | refine zx ?_ | refine zk ?_ | refine zl ?_ | refine zr ?_); refine zq ?_) | refine zs ?_ | refine zh (by simp -implicitDefEqProofs (disch := (first | omega | (simp; done) | fail)) [if_pos, if_neg, wrap_i64, tmod_pos, tdiv_pos, Int.toNat_add, q]; rfl) ?_ | refine zb ?_ | refine zo ?_ | refine zt ?_ | refine zf ?_)
      first | refine body_all (.inr rfl) (by simp -implicitDefEqProofs; rfl) (by simp -implicitDefEqProofs; rfl) (by first | (simp; done) | (simp; omega) | omega) ?_ | refine body_all (.inl rfl) (by simp -implicitDefEqProofs; rfl) (by simp -implicitDefEqProofs; rfl) (by first | (simp; done) | (simp; omega) | omega) ?_
      repeat (first | ((first | refine zd ?_ | refine zx ?_ | refine zk ?_ | refine zl ?_ | refine zr ?_); refine zq ?_) | refine zs ?_ | refine zh (by simp -implicitDefEqProofs (disch := (first | omega | (simp; done) | fail)) [if_pos, if_neg, wrap_i64, tmod_pos, tdiv_pos, Int.toNat_add, entv_s, sesv_s, iv_s, idv_s]; rfl) ?_ | refine zb ?_ | refine zo ?_ | refine zt ?_ | refine zf ?_)
      first | refine body_all (.inr rfl) (by simp -implicitDefEqProofs; rfl) (by simp -implicitDefEqProofs; rfl) (by first | (simp; done) | (simp; omega) | omega) ?_ | refine body_all (.inl rfl) (by simp -implicitDefEqProofs; rfl) (by simp -implicitDefEqProofs; rfl) (by first | (simp; done) | (simp; omega) | omega) ?_
      simp only [List.map_map] at hS ⊢
      exact ⟨_, m, rfl, rfl, hS.box2, hM2⟩
    have hlt : i < ls.length := by omega
    have q : (i : Int) < (ls.length : Int) := by omega
    have hx2 : (ls.map byl)[i]? = some (byl ls[i]) := by simp [hlt]
    obtain ⟨f1, f2⟩ := hf ls[i] (List.getElem_mem hlt)
    have htk : repS s (ls.take (i + 1)) = stepS (repS s (ls.take i)) ls[i] := by rw [List.take_succ_eq_append_getElem hlt, repS, List.foldl_append]; rfl
    have hi1 : i + 1 ≤ ls.length := hlt
    have h21 : ls.length - (i + 1) < ls.length - i := by omega
    generalize ls[i] = b at *
    generalize repS s (ls.take i) = s1 at *
    clear hlt
    repeat (first | ((first | refine zd ?_ | refine zx ?_ | refine zk ?_ | refine zl ?_ | refine zr ?_); refine zq ?_) | refine zs ?_ | refine zh (by simp -implicitDefEqProofs (disch := (first | omega | (simp; done) | fail)) [if_pos, if_neg, wrap_i64, tmod_pos, tdiv_pos, Int.toNat_add, q, hx2, byl_uni, byl]; rfl) ?_ | refine zb ?_ | refine zo ?_ | refine zt ?_ | refine zf ?_)
    refine zp (callable_of Tryz.func18) _ (get_ok b .no f1 _) ?_
    rintro _ _ ⟨rfl, rfl⟩
    have hst : stepS s1 b = if (whole rdRec .zero b).2 = 0 then addS s1 (whole rdRec .zero b).1 else s1 := rfl
    generalize whole rdRec .zero b = p at *
    obtain ⟨r, e⟩ := p
    dsimp only at *
    by_cases he : e = 0
    · subst he
      refine goes_eq (by simp -implicitDefEqProofs (disch := (first | omega | (simp; done) | fail)) [if_pos, if_neg, wrap_i64, tmod_pos, tdiv_pos, Int.toNat_add, Rec.c]; rfl) ?_
      repeat (first | ((first | refine zd ?_ | refine zx ?_ | refine zk ?_ | refine zl ?_ | refine zr ?_); refine zq ?_) | refine zs ?_ | refine zh (by simp -implicitDefEqProofs (disch := (first | omega | (simp; done) | fail)) [if_pos, if_neg, wrap_i64, tmod_pos, tdiv_pos, Int.toNat_add, Rec.c]; rfl) ?_ | refine zb ?_ | refine zo ?_ | refine zt ?_ | refine zf ?_)
      unfold stc at *
      refine goes_yield ⟨rfl, rfl, ?_⟩
      simp only [putAll_cons, putAll_nil]
      repeat (first | ((first | refine zd ?_ | refine zx ?_ | refine zk ?_ | refine zl ?_ | refine zr ?_); refine zq ?_) | refine zs ?_ | refine zh (by simp -implicitDefEqProofs (disch := (first | omega | (simp; done) | fail)) [if_pos, if_neg, wrap_i64, tmod_pos, tdiv_pos, Int.toNat_add, entv_s, sesv_s, iv_s, idv_s]; rfl) ?_ | refine zb ?_ | refine zo ?_ | refine zt ?_ | refine zf ?_)
      refine goes_callS (callable_of Tryz.func14) (by simp -implicitDefEqProofs (disch := (first | omega | (simp; done) | fail)) [if_pos, if_neg, wrap_i64, tmod_pos, tdiv_pos, Int.toNat_add, stv, sv, Rec.c] <;> first | rfl | omega) _ (add_ok s1 r m _ (by have := hS.app [.cells r.c, .cells r.c]; simpa [Rec.c] using this) hM2 (by omega) f2) ?_
      rintro _ _ ⟨X2, m2, rfl, rfl, hS2⟩
      unfold stv sv
      have hS3 := addS_ris (r := r) hM2
      have hS4 := addS_len s1 r
      rw [if_pos rfl] at hst
      rw [hst] at htk
      generalize addS s1 r = s3 at *
      refine goes_eq (by simp -implicitDefEqProofs (disch := (first | omega | (simp; done) | fail)) [if_pos, if_neg, wrap_i64, tmod_pos, tdiv_pos, Int.toNat_add, entv_s, sesv_s, iv_s, idv_s]; rfl) ?_
      repeat (first | ((first | refine zd ?_ | refine zx ?_ | refine zk ?_ | refine zl ?_ | refine zr ?_); refine zq ?_) | refine zs ?_ | refine zh (by simp -implicitDefEqProofs (disch := (first | omega | (simp; done) | fail)) [if_pos, if_neg, wrap_i64, tmod_pos, tdiv_pos, Int.toNat_add, entv_s, sesv_s, iv_s, idv_s]; rfl) ?_ | refine zb ?_ | refine zo ?_ | refine zt ?_ | refine zf ?_)
      refine zn ?_
      repeat (first | ((first | refine zd ?_ | refine zx ?_ | refine zk ?_ | refine zl ?_ | refine zr ?_); refine zq ?_) | refine zs ?_ | refine zg ?_ | refine zb ?_ | refine zo ?_ | refine zt ?_ | refine zf ?_)
      refine ⟨ls.length - (i + 1), h21, i + 1, m2, X ++ (.cells r.c :: .cells r.c :: X2), rfl, hi1, ?_⟩
      rw [htk]
      have h5 : Stt (h ++ .cells (stc s1 m) :: (.cells zc :: (X ++ (.cells r.c :: .cells r.c :: X2)))) s3 m2 := by simpa [stc, Rec.c] using hS2
      exact ⟨h5.box, hS3, by omega, st_keep' (by simp [Rec.c]) (by simp [Rec.c])⟩
    · have he2 : ((e : Int) == 0) = false := by simpa using he
      refine goes_eq (by simp -implicitDefEqProofs (disch := (first | omega | (simp; done) | fail)) [if_pos, if_neg, wrap_i64, tmod_pos, tdiv_pos, Int.toNat_add, Rec.c]; rfl) ?_
      repeat (first | ((first | refine zd ?_ | refine zx ?_ | refine zk ?_ | refine zl ?_ | refine zr ?_); refine zq ?_) | refine zs ?_ | refine zh (by simp -implicitDefEqProofs (disch := (first | omega | (simp; done) | fail)) [if_pos, if_neg, wrap_i64, tmod_pos, tdiv_pos, Int.toNat_add, Rec.c, he2]; rfl) ?_ | refine zb ?_ | refine zo ?_ | refine zt ?_ | refine zf ?_)
      rw [if_neg he] at hst
      rw [hst] at htk
      refine ⟨ls.length - (i + 1), h21, i + 1, m, X ++ [.cells r.c], rfl, hi1, ?_⟩
      rw [htk]
      exact ⟨by simpa using hS.app [.cells r.c], hM2, by omega, st_keep' (by simp [Rec.c]) (by simp [Rec.c])⟩
  · exact ⟨0, mid, [], rfl, by omega, by simpa [repS] using hs.app _, hM, by simp [repS], st_keep' (by simp [stc, repS, zc]) (by simp [stc, repS, zc])⟩
end Go.Proofs.YtdncoobpdllpkaaGreat.Q
