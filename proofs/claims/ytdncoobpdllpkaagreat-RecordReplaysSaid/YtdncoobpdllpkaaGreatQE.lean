import Derived.Test.YtdncoobpdllpkaaGreatQB
import Derived.Test.YtdncoobpdllpkaaGreatCA
/- Snaps: whether two are the same, as the document has it. -/
set_option linter.unusedVariables false
set_option linter.unusedSimpArgs false
set_option maxRecDepth 20000
namespace Go.Proofs.YtdncoobpdllpkaaGreat.Q
open Go Go.Proofs.YtdncoobpdllpkaaGreat.V Go.Proofs.YtdncoobpdllpkaaGreat.N Go.Proofs.YtdncoobpdllpkaaGreat.D Go.RowKit
theorem rrow07_ok (a b : List Entry) (ta tb : Tok) (hl : a.length ≤ 1000000) (hl2 : b.length ≤ 1000000) (h : AHeap) : ACalls Tryz.prog 28 [.list (a.map Entry.av) ta, .list (b.map Entry.av) tb] h fun r h' => r = .bool (decide (a = b)) ∧ h' = h := by
  refine acalls_of_awp Tryz.func28 rfl (by simp only [List.length_cons, List.length_nil]; decide) ?_
  simp only [params_cons, params_nil]
  by_cases h1 : a.length = b.length
  · have e1 : ((a.length : Int) != (b.length : Int)) = false := by simp; omega
    repeat (first | ((first | refine zd ?_ | refine zx ?_ | refine zk ?_ | refine zl ?_ | refine zr ?_); refine zq ?_) | refine zs ?_ | refine zh (by simp -implicitDefEqProofs (disch := (first | omega | (simp; done) | fail)) [if_pos, if_neg, wrap_i64, tmod_pos, tdiv_pos, Int.toNat_add, e1]; rfl) ?_ | refine zb ?_ | refine zo ?_ | refine zt ?_ | refine zf ?_)
    obtain ⟨hh, hhe⟩ : ∃ hh, hh = h := ⟨_, rfl⟩
    rw [← hhe]
    refine awp_loop (fun k st => ∃ i : Nat, k = a.length - i ∧ i ≤ a.length ∧ (∀ j, j < i → a[j]? = b[j]?) ∧ st.le ⟨Tryz.f28.ntmps, [(0, .list (a.map Entry.av) ta), (1, .list (b.map Entry.av) tb), (5, .int .i64 i)], hh⟩) a.length ?_ ?_
    rotate_left
    · rintro k st ⟨i, rfl, hi, he, hle⟩
      refine awp_le hle ?_
      repeat (first | ((first | refine zd ?_ | refine zx ?_ | refine zk ?_ | refine zl ?_ | refine zr ?_); refine zq ?_) | refine zs ?_ | refine zg ?_ | refine zb ?_ | refine zo ?_ | refine zt ?_ | refine zf ?_)
      refine awp_cond rfl (fun h2 => ?_) (fun h2 => ?_)
      · simp at h2
        obtain ⟨x, hx⟩ : ∃ x, a[i]? = some x := ⟨a[i]'(by omega), by rw [List.getElem?_eq_getElem]⟩
        obtain ⟨y, hy⟩ : ∃ y, b[i]? = some y := ⟨b[i]'(by omega), by rw [List.getElem?_eq_getElem]⟩
        have hx2 : (a.map Entry.av)[i]? = some (Entry.av x) := by simp [hx]
        have hy2 : (b.map Entry.av)[i]? = some (Entry.av y) := by simp [hy]
        have hi1 : i + 1 ≤ a.length := by omega
        have hi0 : (i : Int) + 1 ≤ 1000001 := by omega
        have h21 : a.length - (i + 1) < a.length - i := by omega
        clear h2
        repeat (first | ((first | refine zd ?_ | refine zx ?_ | refine zk ?_ | refine zl ?_ | refine zr ?_); refine zq ?_) | refine zs ?_ | refine zg ?_ | refine zb ?_ | refine zo ?_ | refine zt ?_ | refine zf ?_)
        by_cases hxy : x = y
        · subst hxy
          refine awp_draw (.q 0 (.q 1 (.q 2 (.q 3 (.q 4 (.q 5 (.q 6 (.q 7 (.q 8 (.done)))))))))) (by kernel_rfl) (by kernel_rfl) (tree_start (goesT_eq (by simp -implicitDefEqProofs (disch := (first | omega | (simp; done) | fail)) [if_pos, if_neg, wrap_i64, tmod_pos, tdiv_pos, Int.toNat_add, hx2, hy2, entl_uni, Entry.av, Entry.c, AV.cells]; rfl) ?_))
          refine goesT_done ?_
          (try simp only [vq, if_true, reduceIte, Nat.reduceEqDiff, reduceCtorEq])
          repeat (first | ((first | refine zd ?_ | refine zx ?_ | refine zk ?_ | refine zl ?_ | refine zr ?_); refine zq ?_) | refine zs ?_ | refine zg ?_ | refine zb ?_ | refine zo ?_ | refine zt ?_ | refine zf ?_)
          exact ⟨a.length - (i + 1), h21, i + 1, rfl, hi1, upto_next he hx hy, st_keep' (by simp []) (by simp [])⟩
        · have e4 : (x.path != y.path || (x.value != y.value || x.version != y.version)) = true := by
            cases x; cases y
            simp only [Entry.mk.injEq, Classical.not_and_iff_not_or_not] at hxy
            simpa [bne] using hxy
          have e3 : (x.path == y.path && (x.value == y.value && x.version == y.version)) = false := by
            cases x; cases y; simpa using hxy
          have hab : a ≠ b := fun e => hxy (by subst e; rw [hx] at hy; injection hy)
          refine awp_draw (.q 0 (.q 1 (.q 2 (.q 3 (.q 4 (.q 5 (.q 6 (.q 7 (.q 8 (.done)))))))))) (by kernel_rfl) (by kernel_rfl) (tree_start (goesT_eq (by simp -implicitDefEqProofs (disch := (first | omega | (simp; done) | fail)) [if_pos, if_neg, wrap_i64, tmod_pos, tdiv_pos, Int.toNat_add, hx2, hy2, e3, e4, entl_uni, Entry.av, Entry.c, AV.cells]; rfl) ?_))
          refine goesT_done ?_
          (try simp only [vq, if_true, reduceIte, Nat.reduceEqDiff, reduceCtorEq])
          repeat (first | ((first | refine zd ?_ | refine zx ?_ | refine zk ?_ | refine zl ?_ | refine zr ?_); refine zq ?_) | refine zs ?_ | refine zg ?_ | refine zb ?_ | refine zo ?_ | refine zt ?_ | refine zf ?_)
          rw [hhe]
          first | refine zY (.inr rfl) ?_ | refine zY (.inl rfl) ?_
          simp [hab]
      · simp at h2
        have hab : a = b := ext_upto h1 (by omega) he
        repeat (first | ((first | refine zd ?_ | refine zx ?_ | refine zk ?_ | refine zl ?_ | refine zr ?_); refine zq ?_) | refine zs ?_ | refine zg ?_ | refine zb ?_ | refine zo ?_ | refine zt ?_ | refine zf ?_)
        rw [hhe]
        first | refine zY (.inr rfl) ?_ | refine zY (.inl rfl) ?_
        simp [hab]
    · exact ⟨0, rfl, by omega, fun j hj => by omega, st_keep' (by simp []) (by simp [])⟩
  · have e1 : ((a.length : Int) != (b.length : Int)) = true := by simp; omega
    have e2 : a ≠ b := fun e => h1 (by rw [e])
    repeat (first | ((first | refine zd ?_ | refine zx ?_ | refine zk ?_ | refine zl ?_ | refine zr ?_); refine zq ?_) | refine zs ?_ | refine zh (by simp -implicitDefEqProofs (disch := (first | omega | (simp; done) | fail)) [if_pos, if_neg, wrap_i64, tmod_pos, tdiv_pos, Int.toNat_add, e1]; rfl) ?_ | refine zb ?_ | refine zo ?_ | refine zt ?_ | refine zf ?_)
    first | refine zY (.inr rfl) ?_ | refine zY (.inl rfl) ?_
    simp [e2]
theorem rsame07_ok (p q : Reply) (hl : p.names.length ≤ 1000000) (hl2 : q.names.length ≤ 1000000) (h : AHeap) : ACalls Tryz.prog 52 [.agg p.c, .agg q.c] h fun r h' => r = .bool (decide (p = q)) ∧ h' = h := by
  obtain ⟨pe, pv, pn, a⟩ := p
  obtain ⟨qe, qv, qn, b⟩ := q
  dsimp only at hl hl2
  simp only [Reply.c]
  refine acalls_of_awp Tryz.func52 rfl (by simp only [List.length_cons, List.length_nil]; decide) ?_
  simp only [params_cons, params_nil]
  refine awp_seq ?_
  refine zh (by simp -implicitDefEqProofs (disch := (first | omega | (simp; done) | fail)) [if_pos, if_neg, wrap_i64, tmod_pos, tdiv_pos, Int.toNat_add, str_s]; rfl) ?_
  refine goes_done ?_
  (try simp only [vq, if_true, reduceIte, Nat.reduceEqDiff, reduceCtorEq])
  refine awp_hard (id := h.length) (by simp -implicitDefEqProofs; rfl) ?_
  simp -implicitDefEqProofs only [Slots.melt, AV.melt, Nat.add_left_cancel_iff, Nat.add_eq_left, Nat.left_eq_add, Nat.reduceEqDiff, reduceIte, Nat.succ_ne_self, Nat.one_ne_zero, Nat.zero_ne_one, List.set_append_right, List.set_append_left, Nat.sub_self, Nat.le_refl, Nat.add_sub_cancel_left, Nat.le_add_right, List.set_cons_zero, List.set_cons_succ]
  refine awp_hard (id := h.length + 1) (by simp -implicitDefEqProofs; rfl) ?_
  simp -implicitDefEqProofs only [Slots.melt, AV.melt, Nat.add_left_cancel_iff, Nat.add_eq_left, Nat.left_eq_add, Nat.reduceEqDiff, reduceIte, Nat.succ_ne_self, Nat.one_ne_zero, Nat.zero_ne_one, List.set_append_right, List.set_append_left, Nat.sub_self, Nat.le_refl, Nat.add_sub_cancel_left, Nat.le_add_right, List.set_cons_zero, List.set_cons_succ]
  by_cases h1 : pe = qe
  · subst h1
    by_cases h2 : pv = qv
    · subst h2
      by_cases h3 : pn = qn
      · subst h3
        by_cases h4 : a.length = b.length
        · have e4 : ((a.length : Int) != (b.length : Int)) = false := by simp; omega
          repeat (first | ((first | refine zd ?_ | refine zx ?_ | refine zk ?_ | refine zl ?_ | refine zr ?_); refine zq ?_) | refine zs ?_ | refine zh (by simp -implicitDefEqProofs (disch := (first | omega | (simp; done) | fail)) [if_pos, if_neg, wrap_i64, tmod_pos, tdiv_pos, Int.toNat_add, e4]; rfl) ?_ | refine zb ?_ | refine zo ?_ | refine zt ?_ | refine zf ?_)
          obtain ⟨hh, hhe⟩ : ∃ hh, hh = h ++ [.dead, .dead] := ⟨_, rfl⟩
          rw [← hhe]
          refine awp_loop (fun k st => ∃ i : Nat, k = a.length - i ∧ i ≤ a.length ∧ (∀ j, j < i → a[j]? = b[j]?) ∧ st.le ⟨Tryz.f52.ntmps, [(2, .ref [iv pe, .str pv, iv pn, .list (a.map .str) .no] 0), (3, .ref [iv pe, .str pv, iv pn, .list (b.map .str) .no] 0), (5, .int .i64 i)], hh⟩) a.length ?_ ?_
          rotate_left
          · rintro k st ⟨i, rfl, hi, he, hle⟩
            refine awp_le hle ?_
            repeat (first | ((first | refine zd ?_ | refine zx ?_ | refine zk ?_ | refine zl ?_ | refine zr ?_); refine zq ?_) | refine zs ?_ | refine zg ?_ | refine zb ?_ | refine zo ?_ | refine zt ?_ | refine zf ?_)
            refine awp_cond rfl (fun h2 => ?_) (fun h2 => ?_)
            · simp at h2
              obtain ⟨x, hx⟩ : ∃ x, a[i]? = some x := ⟨a[i]'(by omega), by rw [List.getElem?_eq_getElem]⟩
              obtain ⟨y, hy⟩ : ∃ y, b[i]? = some y := ⟨b[i]'(by omega), by rw [List.getElem?_eq_getElem]⟩
              have hx2 : (a.map AV.str)[i]? = some (AV.str x) := by simp [hx]
              have hy2 : (b.map AV.str)[i]? = some (AV.str y) := by simp [hy]
              have hi1 : i + 1 ≤ a.length := by omega
              have hi0 : (i : Int) + 1 ≤ 1000001 := by omega
              have h21 : a.length - (i + 1) < a.length - i := by omega
              clear h2
              repeat (first | ((first | refine zd ?_ | refine zx ?_ | refine zk ?_ | refine zl ?_ | refine zr ?_); refine zq ?_) | refine zs ?_ | refine zg ?_ | refine zb ?_ | refine zo ?_ | refine zt ?_ | refine zf ?_)
              by_cases hxy : x = y
              · subst hxy
                refine awp_draw (.q 0 (.q 1 (.q 2 (.q 3 (.q 4 (.q 5 (.q 6 (.q 7 (.q 8 (.q 9 (.q 10 (.done)))))))))))) (by kernel_rfl) (by kernel_rfl) (tree_start (goesT_eq (by simp -implicitDefEqProofs (disch := (first | omega | (simp; done) | fail)) [if_pos, if_neg, wrap_i64, tmod_pos, tdiv_pos, Int.toNat_add, hx2, hy2, str_uni, AV.cells]; rfl) ?_))
                refine goesT_done ?_
                (try simp only [vq, if_true, reduceIte, Nat.reduceEqDiff, reduceCtorEq])
                repeat (first | ((first | refine zd ?_ | refine zx ?_ | refine zk ?_ | refine zl ?_ | refine zr ?_); refine zq ?_) | refine zs ?_ | refine zg ?_ | refine zb ?_ | refine zo ?_ | refine zt ?_ | refine zf ?_)
                exact ⟨a.length - (i + 1), h21, i + 1, rfl, hi1, upto_next he hx hy, st_keep' (by simp []) (by simp [])⟩
              · have e3 : (x == y) = false := by simpa using hxy
                have e4 : (x != y) = true := by simpa using hxy
                have hab : a ≠ b := fun e => hxy (by subst e; rw [hx] at hy; injection hy)
                refine awp_draw (.q 0 (.q 1 (.q 2 (.q 3 (.q 4 (.q 5 (.q 6 (.q 7 (.q 8 (.q 9 (.q 10 (.done)))))))))))) (by kernel_rfl) (by kernel_rfl) (tree_start (goesT_eq (by simp -implicitDefEqProofs (disch := (first | omega | (simp; done) | fail)) [if_pos, if_neg, wrap_i64, tmod_pos, tdiv_pos, Int.toNat_add, hx2, hy2, e3, e4, str_uni, AV.cells]; rfl) ?_))
                refine goesT_done ?_
                (try simp only [vq, if_true, reduceIte, Nat.reduceEqDiff, reduceCtorEq])
                repeat (first | ((first | refine zd ?_ | refine zx ?_ | refine zk ?_ | refine zl ?_ | refine zr ?_); refine zq ?_) | refine zs ?_ | refine zg ?_ | refine zb ?_ | refine zo ?_ | refine zt ?_ | refine zf ?_)
                rw [hhe]
                first | refine zy (.inr rfl) ?_ | refine zy (.inl rfl) ?_
                simp [hab]
            · simp at h2
              have hab : a = b := ext_upto h4 (by omega) he
              repeat (first | ((first | refine zd ?_ | refine zx ?_ | refine zk ?_ | refine zl ?_ | refine zr ?_); refine zq ?_) | refine zs ?_ | refine zg ?_ | refine zb ?_ | refine zo ?_ | refine zt ?_ | refine zf ?_)
              rw [hhe]
              first | refine zy (.inr rfl) ?_ | refine zy (.inl rfl) ?_
              simp [hab]
          · exact ⟨0, rfl, by omega, fun j hj => by omega, by rw [hhe]; exact st_keep' (by simp []) (by simp [])⟩
        · have e4 : ((a.length : Int) != (b.length : Int)) = true := by simp; omega
          have e2 : a ≠ b := fun e => h4 (by rw [e])
          repeat (first | ((first | refine zd ?_ | refine zx ?_ | refine zk ?_ | refine zl ?_ | refine zr ?_); refine zq ?_) | refine zs ?_ | refine zh (by simp -implicitDefEqProofs (disch := (first | omega | (simp; done) | fail)) [if_pos, if_neg, wrap_i64, tmod_pos, tdiv_pos, Int.toNat_add, e4]; rfl) ?_ | refine zb ?_ | refine zo ?_ | refine zt ?_ | refine zf ?_)
          first | refine zy (.inr rfl) ?_ | refine zy (.inl rfl) ?_
          simp [e2]
      · have e3 : (pn != qn) = true := by simpa using h3
        repeat (first | ((first | refine zd ?_ | refine zx ?_ | refine zk ?_ | refine zl ?_ | refine zr ?_); refine zq ?_) | refine zs ?_ | refine zh (by simp -implicitDefEqProofs (disch := (first | omega | (simp; done) | fail)) [if_pos, if_neg, wrap_i64, tmod_pos, tdiv_pos, Int.toNat_add, e3]; rfl) ?_ | refine zb ?_ | refine zo ?_ | refine zt ?_ | refine zf ?_)
        first | refine zy (.inr rfl) ?_ | refine zy (.inl rfl) ?_
        simp [h3]
    · have e2 : (pv != qv) = true := by simpa using h2
      have e2b : (pv == qv) = false := by simpa using h2
      repeat (first | ((first | refine zd ?_ | refine zx ?_ | refine zk ?_ | refine zl ?_ | refine zr ?_); refine zq ?_) | refine zs ?_ | refine zh (by simp -implicitDefEqProofs (disch := (first | omega | (simp; done) | fail)) [if_pos, if_neg, wrap_i64, tmod_pos, tdiv_pos, Int.toNat_add, e2, e2b]; rfl) ?_ | refine zb ?_ | refine zo ?_ | refine zt ?_ | refine zf ?_)
      first | refine zy (.inr rfl) ?_ | refine zy (.inl rfl) ?_
      simp [h2]
  · have e1 : (pe != qe) = true := by simpa using h1
    repeat (first | ((first | refine zd ?_ | refine zx ?_ | refine zk ?_ | refine zl ?_ | refine zr ?_); refine zq ?_) | refine zs ?_ | refine zh (by simp -implicitDefEqProofs (disch := (first | omega | (simp; done) | fail)) [if_pos, if_neg, wrap_i64, tmod_pos, tdiv_pos, Int.toNat_add, e1]; rfl) ?_ | refine zb ?_ | refine zo ?_ | refine zt ?_ | refine zf ?_)
    first | refine zy (.inr rfl) ?_ | refine zy (.inl rfl) ?_
    simp [h1]
end Go.Proofs.YtdncoobpdllpkaaGreat.Q

/- Snaps: whether two are the same, as the document has it: sessions; snaps. -/
set_option linter.unusedVariables false
set_option linter.unusedSimpArgs false
set_option maxRecDepth 20000
namespace Go.Proofs.YtdncoobpdllpkaaGreat.Q
open Go Go.Proofs.YtdncoobpdllpkaaGreat.V Go.Proofs.YtdncoobpdllpkaaGreat.N Go.Proofs.YtdncoobpdllpkaaGreat.D Go.RowKit
theorem rrow09_ok (a b : List Sess) (ta tb : Tok) (na : Names a) (nb : Names b) (hl : a.length ≤ 1000000) (hl2 : b.length ≤ 1000000) (h : AHeap) : ACalls Tryz.prog 29 [.list (a.map Sess.av) ta, .list (b.map Sess.av) tb] h fun r h' => r = .bool (decide (a = b)) ∧ h' = h := by
  refine acalls_of_awp Tryz.func29 rfl (by simp only [List.length_cons, List.length_nil]; decide) ?_
  simp only [params_cons, params_nil]
  by_cases h1 : a.length = b.length
  · have e1 : ((a.length : Int) != (b.length : Int)) = false := by simp; omega
    repeat (first | ((first | refine zd ?_ | refine zx ?_ | refine zk ?_ | refine zl ?_ | refine zr ?_); refine zq ?_) | refine zs ?_ | refine zh (by simp -implicitDefEqProofs (disch := (first | omega | (simp; done) | fail)) [if_pos, if_neg, wrap_i64, tmod_pos, tdiv_pos, Int.toNat_add, e1]; rfl) ?_ | refine zb ?_ | refine zo ?_ | refine zt ?_ | refine zf ?_)
    refine awp_loop (fun k st => ∃ i : Nat, k = a.length - i ∧ i ≤ a.length ∧ (∀ j, j < i → a[j]? = b[j]?) ∧ st.le ⟨Tryz.f29.ntmps, [(0, .list (a.map Sess.av) ta), (1, .list (b.map Sess.av) tb), (5, .int .i64 i)], h⟩) a.length ?_ ?_
    rotate_left
    · rintro k st ⟨i, rfl, hi, he, hle⟩
      refine awp_le hle ?_
      by_cases h2 : i < a.length
      · obtain ⟨x, hx⟩ : ∃ x, a[i]? = some x := ⟨a[i]'(by omega), by rw [List.getElem?_eq_getElem]⟩
        obtain ⟨y, hy⟩ : ∃ y, b[i]? = some y := ⟨b[i]'(by omega), by rw [List.getElem?_eq_getElem]⟩
        have hx2 : (a.map Sess.av)[i]? = some (Sess.av x) := by simp [hx]
        have hy2 : (b.map Sess.av)[i]? = some (Sess.av y) := by simp [hy]
        have hi1 : i + 1 ≤ a.length := by omega
        have hi0 : (i : Int) + 1 ≤ 1000001 := by omega
        have h21 : a.length - (i + 1) < a.length - i := by omega
        have h2B : decide (i < a.length) = true := by simpa using h2
        have nx := na x (List.mem_of_getElem? hx)
        have ny := nb y (List.mem_of_getElem? hy)
        clear h2
        repeat (first | ((first | refine zd ?_ | refine zx ?_ | refine zk ?_ | refine zl ?_ | refine zr ?_); refine zq ?_) | refine zs ?_ | refine zh (by simp -implicitDefEqProofs (disch := (first | omega | (simp; done) | fail)) [if_pos, if_neg, wrap_i64, tmod_pos, tdiv_pos, Int.toNat_add, h2B]; rfl) ?_ | refine zb ?_ | refine zo ?_ | refine zt ?_ | refine zf ?_)
        refine awp_draw (.q 0 (.q 1 (.q 2 (.q 3 (.q 4 (.q 5 (.q 6 (.q 7 (.q 8 (.q 9 (.a 10 (.q 11 (.done))))))))))))) (by kernel_rfl) (by kernel_rfl) (tree_start (goesT_eq (by simp -implicitDefEqProofs (disch := (first | omega | (simp; done) | fail)) [if_pos, if_neg, wrap_i64, tmod_pos, tdiv_pos, Int.toNat_add, hx2, hy2, sesl_uni, Sess.av, Sess.c, AV.cells]; rfl) ?_))
        refine goesT_callS (callable_of Tryz.func52) (by simp -implicitDefEqProofs (disch := (first | omega | (simp; done) | fail)) [if_pos, if_neg, wrap_i64, tmod_pos, tdiv_pos, Int.toNat_add, Reply.c, str_s] <;> first | rfl | omega) _ (rsame07_ok x.reply y.reply nx ny _) ?_
        rintro _ _ ⟨rfl, rfl⟩
        refine zE ?_
        refine goesT_done ?_
        (try simp only [vq, if_true, reduceIte, Nat.reduceEqDiff, reduceCtorEq])
        repeat (first | ((first | refine zd ?_ | refine zx ?_ | refine zk ?_ | refine zl ?_ | refine zr ?_); refine zq ?_) | refine zs ?_ | refine zg ?_ | refine zb ?_ | refine zo ?_ | refine zt ?_ | refine zf ?_)
        obtain ⟨xc, xs, xr⟩ := x
        obtain ⟨yc, ys, yr⟩ := y
        dsimp only at *
        by_cases c1 : xc = yc
        · subst c1
          by_cases c2 : xs = ys
          · subst c2
            by_cases c3 : xr = yr
            · subst c3
              refine awp_draw (.q 0 (.q 1 (.q 2 (.q 3 (.q 4 (.q 5 (.q 6 (.q 7 (.q 8 (.q 9 (.q 10 (.q 11 (.q 12 (.q 13 (.q 14 (.q 15 (.q 16 (.q 17 (.q 18 (.q 19 (.q 20 (.q 21 (.q 22 (.q 23 (.q 24 (.q 25 (.q 26 (.q 27 (.done))))))))))))))))))))))))))))) (by kernel_rfl) (by kernel_rfl) (tree_start (goesT_eq (by simp -implicitDefEqProofs (disch := (first | omega | (simp; done) | fail)) [if_pos, if_neg, wrap_i64, tmod_pos, tdiv_pos, Int.toNat_add, hx2, hy2, sesl_uni, Sess.av, Sess.c, AV.cells]; rfl) ?_))
              refine goesT_done ?_
              (try simp only [vq, if_true, reduceIte, Nat.reduceEqDiff, reduceCtorEq])
              repeat (first | ((first | refine zd ?_ | refine zx ?_ | refine zk ?_ | refine zl ?_ | refine zr ?_); refine zq ?_) | refine zs ?_ | refine zg ?_ | refine zb ?_ | refine zo ?_ | refine zt ?_ | refine zf ?_)
              exact ⟨a.length - (i + 1), h21, i + 1, rfl, hi1, upto_next he hx hy, st_keep' (by simp []) (by simp [])⟩
            · have hab : a ≠ b := fun e => c3 (by subst e; rw [hx] at hy; injection hy with hy; injection hy)
              have c4 : decide (xr = yr) = false := by simpa using c3
              refine awp_draw (.q 0 (.q 1 (.q 2 (.q 3 (.q 4 (.q 5 (.q 6 (.q 7 (.q 8 (.q 9 (.q 10 (.q 11 (.q 12 (.q 13 (.q 14 (.q 15 (.q 16 (.q 17 (.q 18 (.q 19 (.q 20 (.q 21 (.q 22 (.q 23 (.q 24 (.q 25 (.q 26 (.q 27 (.done))))))))))))))))))))))))))))) (by kernel_rfl) (by kernel_rfl) (tree_start (goesT_eq (by simp -implicitDefEqProofs (disch := (first | omega | (simp; done) | fail)) [if_pos, if_neg, wrap_i64, tmod_pos, tdiv_pos, Int.toNat_add, hx2, hy2, c4, sesl_uni, Sess.av, Sess.c, AV.cells]; rfl) ?_))
              refine goesT_done ?_
              (try simp only [vq, if_true, reduceIte, Nat.reduceEqDiff, reduceCtorEq])
              repeat (first | ((first | refine zd ?_ | refine zx ?_ | refine zk ?_ | refine zl ?_ | refine zr ?_); refine zq ?_) | refine zs ?_ | refine zg ?_ | refine zb ?_ | refine zo ?_ | refine zt ?_ | refine zf ?_)
              first | refine zY (.inr rfl) ?_ | refine zY (.inl rfl) ?_
              simp [hab]
          · have hab : a ≠ b := fun e => c2 (by subst e; rw [hx] at hy; injection hy with hy; injection hy)
            have c4 : (xs != ys) = true := by simpa using c2
            refine awp_draw (.q 0 (.q 1 (.q 2 (.q 3 (.q 4 (.q 5 (.q 6 (.q 7 (.q 8 (.q 9 (.q 10 (.q 11 (.q 12 (.q 13 (.q 14 (.q 15 (.q 16 (.q 17 (.q 18 (.q 19 (.q 20 (.q 21 (.q 22 (.q 23 (.q 24 (.q 25 (.q 26 (.q 27 (.done))))))))))))))))))))))))))))) (by kernel_rfl) (by kernel_rfl) (tree_start (goesT_eq (by simp -implicitDefEqProofs (disch := (first | omega | (simp; done) | fail)) [if_pos, if_neg, wrap_i64, tmod_pos, tdiv_pos, Int.toNat_add, hx2, hy2, c4, sesl_uni, Sess.av, Sess.c, AV.cells]; rfl) ?_))
            refine goesT_done ?_
            (try simp only [vq, if_true, reduceIte, Nat.reduceEqDiff, reduceCtorEq])
            repeat (first | ((first | refine zd ?_ | refine zx ?_ | refine zk ?_ | refine zl ?_ | refine zr ?_); refine zq ?_) | refine zs ?_ | refine zg ?_ | refine zb ?_ | refine zo ?_ | refine zt ?_ | refine zf ?_)
            first | refine zY (.inr rfl) ?_ | refine zY (.inl rfl) ?_
            simp [hab]
        · have hab : a ≠ b := fun e => c1 (by subst e; rw [hx] at hy; injection hy with hy; injection hy)
          have c4 : (xc != yc) = true := by simpa using c1
          refine awp_draw (.q 0 (.q 1 (.q 2 (.q 3 (.q 4 (.q 5 (.q 6 (.q 7 (.q 8 (.q 9 (.q 10 (.q 11 (.q 12 (.q 13 (.q 14 (.q 15 (.q 16 (.q 17 (.q 18 (.q 19 (.q 20 (.q 21 (.q 22 (.q 23 (.q 24 (.q 25 (.q 26 (.q 27 (.done))))))))))))))))))))))))))))) (by kernel_rfl) (by kernel_rfl) (tree_start (goesT_eq (by simp -implicitDefEqProofs (disch := (first | omega | (simp; done) | fail)) [if_pos, if_neg, wrap_i64, tmod_pos, tdiv_pos, Int.toNat_add, hx2, hy2, c4, sesl_uni, Sess.av, Sess.c, AV.cells]; rfl) ?_))
          refine goesT_done ?_
          (try simp only [vq, if_true, reduceIte, Nat.reduceEqDiff, reduceCtorEq])
          repeat (first | ((first | refine zd ?_ | refine zx ?_ | refine zk ?_ | refine zl ?_ | refine zr ?_); refine zq ?_) | refine zs ?_ | refine zg ?_ | refine zb ?_ | refine zo ?_ | refine zt ?_ | refine zf ?_)
          first | refine zY (.inr rfl) ?_ | refine zY (.inl rfl) ?_
          simp [hab]
      · have h2B : decide (i < a.length) = false := by simpa using h2
        have hab : a = b := ext_upto h1 (by omega) he
        clear h2
        repeat (first | ((first | refine zd ?_ | refine zx ?_ | refine zk ?_ | refine zl ?_ | refine zr ?_); refine zq ?_) | refine zs ?_ | refine zh (by simp -implicitDefEqProofs (disch := (first | omega | (simp; done) | fail)) [if_pos, if_neg, wrap_i64, tmod_pos, tdiv_pos, Int.toNat_add, h2B]; rfl) ?_ | refine zb ?_ | refine zo ?_ | refine zt ?_ | refine zf ?_)
        first | refine zY (.inr rfl) ?_ | refine zY (.inl rfl) ?_
        simp [hab]
    · exact ⟨0, rfl, by omega, fun j hj => by omega, st_keep' (by simp []) (by simp [])⟩
  · have e1 : ((a.length : Int) != (b.length : Int)) = true := by simp; omega
    have e2 : a ≠ b := fun e => h1 (by rw [e])
    repeat (first | ((first | refine zd ?_ | refine zx ?_ | refine zk ?_ | refine zl ?_ | refine zr ?_); refine zq ?_) | refine zs ?_ | refine zh (by simp -implicitDefEqProofs (disch := (first | omega | (simp; done) | fail)) [if_pos, if_neg, wrap_i64, tmod_pos, tdiv_pos, Int.toNat_add, e1]; rfl) ?_ | refine zb ?_ | refine zo ?_ | refine zt ?_ | refine zf ?_)
    first | refine zY (.inr rfl) ?_ | refine zY (.inl rfl) ?_
    simp [e2]
theorem rsnap_ok (x y : Snap) (hx : x.Lit) (hy : y.Lit) (h : AHeap) : ACalls Tryz.prog 12 [.agg x.c, .agg y.c] h fun r h' => r = .bool (decide (x = y)) ∧ h' = h := by
  obtain ⟨x1, x2, x3, x4⟩ := hx
  obtain ⟨y1, y2, y3, y4⟩ := hy
  unfold Snap.c
  refine acalls_of_awp Tryz.func12 rfl (by simp only [List.length_cons, List.length_nil]; decide) ?_
  simp only [params_cons, params_nil]
  repeat (first | ((first | refine zd ?_ | refine zx ?_ | refine zk ?_ | refine zl ?_ | refine zr ?_); refine zq ?_) | refine zs ?_ | refine zh (by simp -implicitDefEqProofs (disch := (first | omega | (simp; done) | fail)) [if_pos, if_neg, wrap_i64, tmod_pos, tdiv_pos, Int.toNat_add, entv_s, sesv_s, iv_s]; rfl) ?_ | refine zb ?_ | refine zo ?_ | refine zt ?_ | refine zf ?_)
  refine goes_callS (callable_of Tryz.func27) (by simp -implicitDefEqProofs (disch := (first | omega | (simp; done) | fail)) [if_pos, if_neg, wrap_i64, tmod_pos, tdiv_pos, Int.toNat_add, C.cv, iv_s] <;> first | rfl | omega) _ (C.rsame_ok x.epoch y.epoch x.nodes y.nodes x1 y1 _) ?_
  rintro _ h1 ⟨rfl, rfl⟩
  by_cases h1 : x.epoch = y.epoch ∧ x.nodes = y.nodes
  · have e1 : decide (x.epoch = y.epoch ∧ x.nodes = y.nodes) = true := by simpa using h1
    refine goes_eq (by simp -implicitDefEqProofs (disch := (first | omega | (simp; done) | fail)) [if_pos, if_neg, wrap_i64, tmod_pos, tdiv_pos, Int.toNat_add, e1]; rfl) ?_
    refine goes_callS (callable_of Tryz.func28) (by simp -implicitDefEqProofs (disch := (first | omega | (simp; done) | fail)) [if_pos, if_neg, wrap_i64, tmod_pos, tdiv_pos, Int.toNat_add, entv_s] <;> first | rfl | omega) _ (rrow07_ok x.paths y.paths .no .no x2 y2 _) ?_
    rintro _ h1 ⟨rfl, rfl⟩
    by_cases h2 : x.paths = y.paths
    · have e2 : decide (x.paths = y.paths) = true := by simpa using h2
      refine goes_eq (by simp -implicitDefEqProofs (disch := (first | omega | (simp; done) | fail)) [if_pos, if_neg, wrap_i64, tmod_pos, tdiv_pos, Int.toNat_add, e1, e2]; rfl) ?_
      refine goes_callS (callable_of Tryz.func29) (by simp -implicitDefEqProofs (disch := (first | omega | (simp; done) | fail)) [if_pos, if_neg, wrap_i64, tmod_pos, tdiv_pos, Int.toNat_add, sesv_s] <;> first | rfl | omega) _ (rrow09_ok x.sessions y.sessions .no .no x4 y4 x3 y3 _) ?_
      rintro _ h1 ⟨rfl, rfl⟩
      refine goes_eq (by simp -implicitDefEqProofs (disch := (first | omega | (simp; done) | fail)) [if_pos, if_neg, wrap_i64, tmod_pos, tdiv_pos, Int.toNat_add, e1, e2]; rfl) ?_
      repeat (first | ((first | refine zd ?_ | refine zx ?_ | refine zk ?_ | refine zl ?_ | refine zr ?_); refine zq ?_) | refine zs ?_ | refine zg ?_ | refine zb ?_ | refine zo ?_ | refine zt ?_ | refine zf ?_)
      first | refine zy (.inr rfl) ?_ | refine zy (.inl rfl) ?_
      cases x; cases y
      simp at h1 h2 ⊢
      simp [h1, h2]
    · have e2 : decide (x.paths = y.paths) = false := by simpa using h2
      refine goes_eq (by simp -implicitDefEqProofs (disch := (first | omega | (simp; done) | fail)) [if_pos, if_neg, wrap_i64, tmod_pos, tdiv_pos, Int.toNat_add, e1, e2]; rfl) ?_
      repeat (first | ((first | refine zd ?_ | refine zx ?_ | refine zk ?_ | refine zl ?_ | refine zr ?_); refine zq ?_) | refine zs ?_ | refine zg ?_ | refine zb ?_ | refine zo ?_ | refine zt ?_ | refine zf ?_)
      first | refine zy (.inr rfl) ?_ | refine zy (.inl rfl) ?_
      cases x; cases y
      simp at h2 ⊢
      simp [h2]
  · have e1 : decide (x.epoch = y.epoch ∧ x.nodes = y.nodes) = false := by simpa using h1
    refine goes_eq (by simp -implicitDefEqProofs (disch := (first | omega | (simp; done) | fail)) [if_pos, if_neg, wrap_i64, tmod_pos, tdiv_pos, Int.toNat_add, e1]; rfl) ?_
    repeat (first | ((first | refine zd ?_ | refine zx ?_ | refine zk ?_ | refine zl ?_ | refine zr ?_); refine zq ?_) | refine zs ?_ | refine zg ?_ | refine zb ?_ | refine zo ?_ | refine zt ?_ | refine zf ?_)
    first | refine zy (.inr rfl) ?_ | refine zy (.inl rfl) ?_
    cases x; cases y
    simp at h1 ⊢
    intro a b; exact absurd b (h1 a)
end Go.Proofs.YtdncoobpdllpkaaGreat.Q

/- What a node knows, as the document has it: a record more. -/
set_option linter.unusedVariables false
set_option linter.unusedSimpArgs false
set_option maxRecDepth 20000
namespace Go.Proofs.YtdncoobpdllpkaaGreat.Q
open Go Go.Proofs.YtdncoobpdllpkaaGreat.V Go.Proofs.YtdncoobpdllpkaaGreat.N Go.Proofs.YtdncoobpdllpkaaGreat.D Go.RowKit
attribute [local simp] strip_keys
theorem eqb (a b : Iid) : (a.e == b.e && (a.n == b.n && a.o == b.o)) = decide (a = b) := by
  obtain ⟨a1, a2, a3⟩ := a
  obtain ⟨b1, b2, b3⟩ := b
  rw [Bool.eq_iff_iff]
  simp
theorem neb (a b : Iid) : (a.e != b.e || (a.n != b.n || a.o != b.o)) = !decide (a = b) := by
  rw [← eqb]
  simp [bne, Bool.not_and]
theorem rless_ok (a b : Iid) (h : AHeap) : ACalls Tryz.prog 48 [Iid.av a, Iid.av b] h fun r h' => r = .bool (I.lessB a b) ∧ h' = h := by
  unfold Iid.av Iid.c
  refine acalls_of_awp Tryz.func48 rfl (by simp only [List.length_cons, List.length_nil]; decide) ?_
  simp only [params_cons, params_nil]
  refine awp_seq ?_
  refine zg ?_
  refine goes_done ?_
  (try simp only [vq, if_true, reduceIte, Nat.reduceEqDiff, reduceCtorEq])
  refine awp_hard (id := h.length) (by simp -implicitDefEqProofs; rfl) ?_
  simp -implicitDefEqProofs only [Slots.melt, AV.melt, Nat.add_left_cancel_iff, Nat.add_eq_left, Nat.left_eq_add, Nat.reduceEqDiff, reduceIte, Nat.succ_ne_self, Nat.one_ne_zero, Nat.zero_ne_one, List.set_append_right, List.set_append_left, Nat.sub_self, Nat.le_refl, Nat.add_sub_cancel_left, Nat.le_add_right, List.set_cons_zero, List.set_cons_succ]
  refine awp_hard (id := h.length + 1) (by simp -implicitDefEqProofs; rfl) ?_
  simp -implicitDefEqProofs only [Slots.melt, AV.melt, Nat.add_left_cancel_iff, Nat.add_eq_left, Nat.left_eq_add, Nat.reduceEqDiff, reduceIte, Nat.succ_ne_self, Nat.one_ne_zero, Nat.zero_ne_one, List.set_append_right, List.set_append_left, Nat.sub_self, Nat.le_refl, Nat.add_sub_cancel_left, Nat.le_add_right, List.set_cons_zero, List.set_cons_succ]
  by_cases h1 : a.e = b.e
  · have h1' : (a.e != b.e) = false := by simpa using h1
    by_cases h2 : a.o = b.o
    · have h2' : (a.o != b.o) = false := by simpa using h2
      repeat (first | ((first | refine zd ?_ | refine zx ?_ | refine zk ?_ | refine zl ?_ | refine zr ?_); refine zq ?_) | refine zs ?_ | refine zh (by simp -implicitDefEqProofs (disch := (first | omega | (simp; done) | fail)) [if_pos, if_neg, wrap_i64, tmod_pos, tdiv_pos, Int.toNat_add, h1', h2']; rfl) ?_ | refine zb ?_ | refine zo ?_ | refine zt ?_ | refine zf ?_)
      first | refine zy (.inr rfl) ?_ | refine zy (.inl rfl) ?_
      simp [I.lessB, h1, h2]
    · have h2' : (a.o != b.o) = true := by simpa using h2
      repeat (first | ((first | refine zd ?_ | refine zx ?_ | refine zk ?_ | refine zl ?_ | refine zr ?_); refine zq ?_) | refine zs ?_ | refine zh (by simp -implicitDefEqProofs (disch := (first | omega | (simp; done) | fail)) [if_pos, if_neg, wrap_i64, tmod_pos, tdiv_pos, Int.toNat_add, h1', h2']; rfl) ?_ | refine zb ?_ | refine zo ?_ | refine zt ?_ | refine zf ?_)
      first | refine zy (.inr rfl) ?_ | refine zy (.inl rfl) ?_
      simp [I.lessB, h1, h2]
  · have h1' : (a.e != b.e) = true := by simpa using h1
    repeat (first | ((first | refine zd ?_ | refine zx ?_ | refine zk ?_ | refine zl ?_ | refine zr ?_); refine zq ?_) | refine zs ?_ | refine zh (by simp -implicitDefEqProofs (disch := (first | omega | (simp; done) | fail)) [if_pos, if_neg, wrap_i64, tmod_pos, tdiv_pos, Int.toNat_add, h1']; rfl) ?_ | refine zb ?_ | refine zo ?_ | refine zt ?_ | refine zf ?_)
    first | refine zy (.inr rfl) ?_ | refine zy (.inl rfl) ?_
    simp [I.lessB, h1]
abbrev P1 := Iid × Inst
def onec (p : P1) : List AV := [iv p.1.e, iv p.1.n, iv p.1.o, iv p.2.status, iv p.2.promise.no, iv p.2.promise.node, iv p.2.voted.no, iv p.2.voted.node, iv p.2.cmd.client, iv p.2.cmd.seq, iv p.2.cmd.op, .str p.2.cmd.path, .str p.2.cmd.value, iv p.2.cmd.version, iv p.2.cmd.a, iv p.2.cmd.b, iv p.2.seq, .list (p.2.deps.map Iid.av) .no]
def onev (p : P1) : AV := .agg (onec p)
theorem onev_strip (p : P1) : (onev p).strip = onev p := by simp [onev, onec, idv_s]
theorem onev_s : AV.strip ∘ onev = onev := funext onev_strip
theorem onev_uni (l : List P1) : uni 18 (l.map onev) = true := uni_map fun _ => rfl
theorem onev_bel {m : Nat} {p : P1} : Bel m (onev p) := by simp [onev, onec]
attribute [local simp] onev_s onev_bel
def dvc (x : Snap) (M : List P1) (tok : Tok) : List AV := [iv x.epoch, .list (x.nodes.map iv) .no, .list (x.paths.map Entry.av) .no, .list (x.sessions.map Sess.av) .no, .list (M.map onev) tok]
def dv (s : SM) : AV := .agg (dvc s.1 s.2 .no)
/-- One by one. -/
def insS (k : Iid) (x : Inst) (a : List P1 × Bool) (p : P1) : List P1 × Bool :=
  (a.1 ++ (if (!a.2 && I.lessB k p.1) = true then [(k, x)] else []) ++ (if p.1 = k then [] else [p]), a.2 || I.lessB k p.1)
def insE (k : Iid) (x : Inst) (a : List P1 × Bool) : List P1 := if a.2 = true then a.1 else a.1 ++ [(k, x)]
def insG (k : Iid) (x : Inst) : List P1 → Bool → List P1
  | [], d => if d = true then [] else [(k, x)]
  | p :: M, d => (if (!d && I.lessB k p.1) = true then [(k, x)] else []) ++ ((if p.1 = k then [] else [p]) ++ insG k x M (d || I.lessB k p.1))
theorem ins_fold (k : Iid) (x : Inst) : ∀ (M acc : List P1) (d : Bool), insE k x (M.foldl (insS k x) (acc, d)) = acc ++ insG k x M d
  | [], acc, d => by cases d <;> simp [insE, insG]
  | p :: M, acc, d => by
    rw [List.foldl_cons, show insS k x (acc, d) p = (acc ++ (if (!d && I.lessB k p.1) = true then [(k, x)] else []) ++ (if p.1 = k then [] else [p]), d || I.lessB k p.1) from rfl, ins_fold k x M]
    simp [insG, List.append_assoc]
theorem insG_true (k : Iid) (x : Inst) : ∀ M : List P1, (∀ p ∈ M, p.1 ≠ k) → insG k x M true = M
  | [], h => rfl
  | p :: M, h => by
    have h1 : ¬ p.1 = k := h p (by simp)
    simp [insG, h1, insG_true k x M fun q hq => h q (by simp [hq])]
theorem less_ne {a b : Iid} (h : I.lessB a b = true) : b ≠ a := fun e => by rw [e] at h; simp [I.lessB] at h
theorem less_tr {a b c : Iid} (h1 : I.lessB a b = true) (h2 : I.lessB b c = true) : I.lessB a c = true := by
  simp only [I.lessB, decide_eq_true_eq] at *; omega
theorem insG_put (k : Iid) (x : Inst) : ∀ {M : List P1}, MRis M → insG k x M false = putM M k x
  | [], h => rfl
  | p :: M, h => by
    obtain ⟨h1, h2⟩ := List.pairwise_cons.1 (show List.Pairwise _ (p.1 :: M.map (·.1)) from h)
    have h3 : ∀ q ∈ M, I.lessB p.1 q.1 = true := fun q hq => h1 q.1 (List.mem_map.2 ⟨q, hq, rfl⟩)
    have ih := insG_put k x (M := M) h2
    unfold insG putM
    by_cases e : k = p.1
    · have hl : I.lessB k p.1 = false := by rw [e]; simp [I.lessB]
      rw [hl, show (false || false) = false from rfl, ih]
      subst e
      simp
      cases M with
      | nil => rfl
      | cons q M =>
        have h4 := h3 q (by simp)
        have h5 : ¬ p.1 = q.1 := fun e => (less_ne h4) e.symm
        simp [putM, h4, h5]
    · have e2 : ¬ p.1 = k := fun h => e h.symm
      cases hl : I.lessB k p.1 with
      | true => 
        have := insG_true k x M fun q hq => less_ne (less_tr hl (h3 q hq))
        simp [e, e2, this]
      | false => simp [e, e2, ih]
theorem ins_put {M : List P1} (k : Iid) (x : Inst) (h : MRis M) : insE k x (M.foldl (insS k x) ([], false)) = putM M k x := by
  rw [ins_fold, List.nil_append, insG_put k x h]
theorem insS_len (k : Iid) (x : Inst) : ∀ (M acc : List P1) (d : Bool), (M.foldl (insS k x) (acc, d)).1.length ≤ acc.length + 2 * M.length
  | [], acc, d => by simp
  | p :: M, acc, d => by
    rw [List.foldl_cons]
    have := insS_len k x M (insS k x (acc, d) p).1 (insS k x (acc, d) p).2
    have h2 : (insS k x (acc, d) p).1.length ≤ acc.length + 2 := by
      unfold insS
      simp only [List.length_append]
      split <;> split <;> simp <;> omega
    rw [show ((insS k x (acc, d) p).1, (insS k x (acc, d) p).2) = insS k x (acc, d) p from rfl] at this
    simp; omega
theorem nbig {n : Nat} (h : n ≤ 30000) : (n + 1) * 176 ≤ 140737488355328 ∧ n + 1 ≤ 140737488355327 ∧ n + 1 ≤ 140737488355328 := by omega
end Go.Proofs.YtdncoobpdllpkaaGreat.Q

/- What a node knows, as the document has it: Add. -/
set_option linter.unusedVariables false
set_option linter.unusedSimpArgs false
set_option maxRecDepth 20000
namespace Go.Proofs.YtdncoobpdllpkaaGreat.Q
open Go Go.Proofs.YtdncoobpdllpkaaGreat.V Go.Proofs.YtdncoobpdllpkaaGreat.N Go.Proofs.YtdncoobpdllpkaaGreat.D Go.RowKit
attribute [local simp] strip_keys onev_s onev_bel
def rcf (r : Rec) : List AV := [.bool false, iv r.id.e, iv r.id.n, iv r.id.o, iv r.inst.status, iv r.inst.promise.no, iv r.inst.promise.node, iv r.inst.voted.no, iv r.inst.voted.node, iv r.inst.cmd.client, iv r.inst.cmd.seq, iv r.inst.cmd.op, .str r.inst.cmd.path, .str r.inst.cmd.value, iv r.inst.cmd.version, iv r.inst.cmd.a, iv r.inst.cmd.b, iv r.inst.seq, .list (r.inst.deps.map Iid.av) .no, iv r.snap.epoch, .list (r.snap.nodes.map iv) .no, .list (r.snap.paths.map Entry.av) .no, .list (r.snap.sessions.map Sess.av) .no]
def zd : List AV := [iv 0, .list [] .full, .list [] .full, .list [] .full, .list [] .full]
set_option maxHeartbeats 4000000 in
theorem radd_ok (s : SM) (r : Rec) (h : AHeap) (hM : MRis s.2) (hl : s.2.length ≤ 9999) (hn : r.snap.nodes.length ≤ 1000000) : ACalls Tryz.prog 20 [dv s, .agg r.c] h fun v h' => v = dv (addS s r) ∧ h' = h := by
  unfold dv dvc
  have rs := rec_strip r
  refine acalls_of_awp Tryz.func20 rfl (by simp only [List.length_cons, List.length_nil]; decide) ?_
  simp only [params_cons, params_nil]
  refine awp_seq ?_
  refine awp_region' (run_start (goes_eq (by simp -implicitDefEqProofs (disch := (first | omega | (simp; done) | fail)) [if_pos, if_neg, wrap_i64, tmod_pos, tdiv_pos, Int.toNat_add, entv_s, sesv_s, iv_s]; rfl) ?_))
  refine goes_done ?_
  (try simp only [vq, if_true, reduceIte, Nat.reduceEqDiff, reduceCtorEq])
  refine awp_hard (id := h.length) (by simp -implicitDefEqProofs; rfl) ?_
  simp -implicitDefEqProofs only [Slots.melt, AV.melt, Nat.add_left_cancel_iff, Nat.add_eq_left, Nat.left_eq_add, Nat.reduceEqDiff, reduceIte, Nat.succ_ne_self, Nat.one_ne_zero, Nat.zero_ne_one, List.set_append_right, List.set_append_left, Nat.sub_self, Nat.le_refl, Nat.add_sub_cancel_left, Nat.le_add_right, List.set_cons_zero, List.set_cons_succ]
  refine awp_hard (id := h.length + 1) (by simp -implicitDefEqProofs; rfl) ?_
  simp -implicitDefEqProofs only [Slots.melt, AV.melt, Nat.add_left_cancel_iff, Nat.add_eq_left, Nat.left_eq_add, Nat.reduceEqDiff, reduceIte, Nat.succ_ne_self, Nat.one_ne_zero, Nat.zero_ne_one, List.set_append_right, List.set_append_left, Nat.sub_self, Nat.le_refl, Nat.add_sub_cancel_left, Nat.le_add_right, List.set_cons_zero, List.set_cons_succ]
  cases hsl : r.sl with
  | true =>
    unfold Rec.c
    repeat (first | ((first | refine goes_done ?_ | refine awp_exit ?_ | refine awp_skip ?_ | refine awp_label ?_ | refine awp_ret ?_); (try simp only [vq, if_true, reduceIte, Nat.reduceEqDiff, reduceCtorEq])) | refine awp_seq ?_ | refine awp_region' (run_start (goes_eq (by simp -implicitDefEqProofs (disch := (first | omega | (simp; done) | fail)) [if_pos, if_neg, wrap_i64, tmod_pos, tdiv_pos, Int.toNat_add, entv_s, sesv_s, iv_s, idv_s, hsl]; rfl) ?_)) | refine awp_block ?_ | refine awp_scope ?_ | refine awp_cond_t rfl ?_ | refine awp_cond_f rfl ?_)
    refine goes_callS (callable_of Tryz.func47) (by simp -implicitDefEqProofs (disch := (first | omega | (simp; done) | fail)) [if_pos, if_neg, wrap_i64, tmod_pos, tdiv_pos, Int.toNat_add, C.cv, iv_s] <;> first | rfl | omega) _ (C.rvalid_ok r.snap.epoch r.snap.nodes hn _) ?_
    rintro _ _ ⟨rfl, rfl⟩
    by_cases hv : C.validB r.snap.epoch r.snap.nodes = true
    · by_cases he : s.1.epoch < r.snap.epoch
      · refine goes_eq (by simp -implicitDefEqProofs (disch := (first | omega | (simp; done) | fail)) [if_pos, if_neg, wrap_i64, tmod_pos, tdiv_pos, Int.toNat_add, hv, he]; rfl) ?_
        repeat (first | ((first | refine goes_done ?_ | refine awp_exit ?_ | refine awp_skip ?_ | refine awp_label ?_ | refine awp_ret ?_); (try simp only [vq, if_true, reduceIte, Nat.reduceEqDiff, reduceCtorEq])) | refine awp_seq ?_ | refine awp_region' (run_start (goes_eq (by simp -implicitDefEqProofs (disch := (first | omega | (simp; done) | fail)) [if_pos, if_neg, wrap_i64, tmod_pos, tdiv_pos, Int.toNat_add, hv, he, entv_s, sesv_s, iv_s]; rfl) ?_)) | refine awp_block ?_ | refine awp_scope ?_ | refine awp_cond_t rfl ?_ | refine awp_cond_f rfl ?_)
        first | refine body_pure (.inr rfl) (by simp -implicitDefEqProofs; rfl) (by simp -implicitDefEqProofs; rfl) (by simp) ?_ | refine body_pure (.inl rfl) (by simp -implicitDefEqProofs; rfl) (by simp -implicitDefEqProofs; rfl) (by simp) ?_
        simp [addS, hsl, hv, he]
      · refine goes_eq (by simp -implicitDefEqProofs (disch := (first | omega | (simp; done) | fail)) [if_pos, if_neg, wrap_i64, tmod_pos, tdiv_pos, Int.toNat_add, hv, he]; rfl) ?_
        repeat (first | ((first | refine goes_done ?_ | refine awp_exit ?_ | refine awp_skip ?_ | refine awp_label ?_ | refine awp_ret ?_); (try simp only [vq, if_true, reduceIte, Nat.reduceEqDiff, reduceCtorEq])) | refine awp_seq ?_ | refine awp_region' (run_start (goes_eq (by simp -implicitDefEqProofs (disch := (first | omega | (simp; done) | fail)) [if_pos, if_neg, wrap_i64, tmod_pos, tdiv_pos, Int.toNat_add, hv, he, entv_s, sesv_s, iv_s]; rfl) ?_)) | refine awp_block ?_ | refine awp_scope ?_ | refine awp_cond_t rfl ?_ | refine awp_cond_f rfl ?_)
        first | refine body_pure (.inr rfl) (by simp -implicitDefEqProofs; rfl) (by simp -implicitDefEqProofs; rfl) (by simp) ?_ | refine body_pure (.inl rfl) (by simp -implicitDefEqProofs; rfl) (by simp -implicitDefEqProofs; rfl) (by simp) ?_
        simp [addS, hsl, he]
    · refine goes_eq (by simp -implicitDefEqProofs (disch := (first | omega | (simp; done) | fail)) [if_pos, if_neg, wrap_i64, tmod_pos, tdiv_pos, Int.toNat_add, hv]; rfl) ?_
      repeat (first | ((first | refine goes_done ?_ | refine awp_exit ?_ | refine awp_skip ?_ | refine awp_label ?_ | refine awp_ret ?_); (try simp only [vq, if_true, reduceIte, Nat.reduceEqDiff, reduceCtorEq])) | refine awp_seq ?_ | refine awp_region' (run_start (goes_eq (by simp -implicitDefEqProofs (disch := (first | omega | (simp; done) | fail)) [if_pos, if_neg, wrap_i64, tmod_pos, tdiv_pos, Int.toNat_add, hv, entv_s, sesv_s, iv_s]; rfl) ?_)) | refine awp_block ?_ | refine awp_scope ?_ | refine awp_cond_t rfl ?_ | refine awp_cond_f rfl ?_)
      first | refine body_pure (.inr rfl) (by simp -implicitDefEqProofs; rfl) (by simp -implicitDefEqProofs; rfl) (by simp) ?_ | refine body_pure (.inl rfl) (by simp -implicitDefEqProofs; rfl) (by simp -implicitDefEqProofs; rfl) (by simp) ?_
      simp [addS, hsl, hv]
  | false =>
  unfold Rec.c
  by_cases he : r.id.e = s.1.epoch
  case neg =>
    have e1 : (r.id.e != s.1.epoch) = true := by simpa using he
    repeat (first | ((first | refine goes_done ?_ | refine awp_exit ?_ | refine awp_skip ?_ | refine awp_label ?_ | refine awp_ret ?_); (try simp only [vq, if_true, reduceIte, Nat.reduceEqDiff, reduceCtorEq])) | refine awp_seq ?_ | refine awp_region' (run_start (goes_eq (by simp -implicitDefEqProofs (disch := (first | omega | (simp; done) | fail)) [if_pos, if_neg, wrap_i64, tmod_pos, tdiv_pos, Int.toNat_add, entv_s, sesv_s, iv_s, idv_s, hsl, e1]; rfl) ?_)) | refine awp_block ?_ | refine awp_scope ?_ | refine awp_cond_t rfl ?_ | refine awp_cond_f rfl ?_)
    first | refine body_pure (.inr rfl) (by simp -implicitDefEqProofs; rfl) (by simp -implicitDefEqProofs; rfl) (by simp) ?_ | refine body_pure (.inl rfl) (by simp -implicitDefEqProofs; rfl) (by simp -implicitDefEqProofs; rfl) (by simp) ?_
    simp [addS, hsl, he]
  have e1 : (r.id.e != s.1.epoch) = false := by simpa using he
  repeat (first | ((first | refine goes_done ?_ | refine awp_exit ?_ | refine awp_skip ?_ | refine awp_label ?_ | refine awp_ret ?_); (try simp only [vq, if_true, reduceIte, Nat.reduceEqDiff, reduceCtorEq])) | refine awp_seq ?_ | refine awp_region' (run_start (goes_eq (by simp -implicitDefEqProofs (disch := (first | omega | (simp; done) | fail)) [if_pos, if_neg, wrap_i64, tmod_pos, tdiv_pos, Int.toNat_add, entv_s, sesv_s, iv_s, idv_s, hsl, e1]; rfl) ?_)) | refine awp_block ?_ | refine awp_scope ?_ | refine awp_cond_t rfl ?_ | refine awp_cond_f rfl ?_)
  obtain ⟨D, hD⟩ : ∃ D : Nat → List P1 × Bool, ∀ i, D i = (s.2.take i).foldl (insS r.id r.inst) ([], false) := ⟨_, fun _ => rfl⟩
  have hDl : ∀ i, i ≤ s.2.length → (D i).1.length ≤ 20000 := fun i hi => by
    rw [hD]; have := insS_len r.id r.inst (s.2.take i) [] false; simp at this ⊢; omega
  have hDs : ∀ (i : Nat) (p : P1), s.2[i]? = some p → D (i + 1) = insS r.id r.inst (D i) p := fun i p hp => by
    rw [hD, hD, List.take_add_one, hp, List.foldl_append]; rfl
  have hDn : insE r.id r.inst (D s.2.length) = putM s.2 r.id r.inst := by rw [hD, List.take_length]; exact ins_put _ _ hM
  have hD0 : D 0 = ([], false) := by rw [hD]; rfl
  have hfin : addS s r = (s.1, putM s.2 r.id r.inst) := by simp [addS, hsl, he]
  rw [hfin, ← hDn]
  clear hfin hDn hD e1
  have hbz : Tryz.prog = Tryz.prog := rfl
  refine awp_loop (fun z st => ∃ (i : Nat) (X : AHeap) (tok : Tok), z = s.2.length - i ∧ i ≤ s.2.length ∧ TokAt h.length 4 X 83 18 tok ∧ st.le ⟨Tryz.f20.ntmps, [(2, .ref (dvc s.1 s.2 .no) 0), (3, .ref (rcf r) 0), (4, .ptr (h.length + 2) 0), (5, .ptr (h.length + 3) 0), (6, .bool (D i).2), (7, iv (i : Nat))], h ++ (.dead :: .dead :: .cells zd :: .cells (dvc s.1 (D i).1 tok) :: X)⟩) s.2.length ?_ ?_
  rotate_left
  rintro z st ⟨i, X, tok, rfl, hi, ht, hle⟩
  · refine awp_le hle ?_
    clear hle
    unfold dvc zd rcf
    by_cases h9 : i = s.2.length
    · subst h9
      have q : ¬ (s.2.length : Int) < (s.2.length : Int) := by omega
      have hal := hDl _ hi
      clear hDl hDs hD0
      generalize D s.2.length = a at *
      obtain ⟨acc, d⟩ := a
      dsimp only at *
      obtain ⟨n1, n2, n3⟩ := nbig (n := acc.length) (by omega)
      have hu2 := onev_uni acc
      cases d with
      | true =>
        repeat (first | ((first | refine goes_done ?_ | refine awp_exit ?_ | refine awp_skip ?_ | refine awp_label ?_ | refine awp_ret ?_); (try simp only [vq, if_true, reduceIte, Nat.reduceEqDiff, reduceCtorEq])) | refine awp_seq ?_ | refine awp_region' (run_start (goes_eq (by simp -implicitDefEqProofs (disch := (first | omega | (simp; done) | fail)) [if_pos, if_neg, wrap_i64, tmod_pos, tdiv_pos, Int.toNat_add, q, entv_s, sesv_s, iv_s]; rfl) ?_)) | refine awp_block ?_ | refine awp_scope ?_ | refine awp_cond_t rfl ?_ | refine awp_cond_f rfl ?_)
        first | refine body_pure (.inr rfl) (by simp -implicitDefEqProofs; rfl) (by simp -implicitDefEqProofs; rfl) (by simp) ?_ | refine body_pure (.inl rfl) (by simp -implicitDefEqProofs; rfl) (by simp -implicitDefEqProofs; rfl) (by simp) ?_
        simp [insE]
      | false =>
        have hb1 : Bel h.length (.list (acc.map onev ++ [onev (r.id, r.inst)]) .no) := bel_list (belL_app.2 ⟨belL_map fun _ => onev_bel, belL_cons.2 ⟨onev_bel, belL_nil⟩⟩)
        rcases ht with rfl | ⟨j, rfl, hj⟩
        · repeat (first | ((first | refine goes_done ?_ | refine awp_exit ?_ | refine awp_skip ?_ | refine awp_label ?_ | refine awp_ret ?_); (try simp only [vq, if_true, reduceIte, Nat.reduceEqDiff, reduceCtorEq])) | refine awp_seq ?_ | refine awp_region' (run_start (goes_eq (by simp -implicitDefEqProofs (disch := (first | omega | (simp; done) | fail)) [if_pos, if_neg, wrap_i64, tmod_pos, tdiv_pos, Int.toNat_add, q, hu2, n1, n2, n3, entv_s, sesv_s, iv_s]; rfl) ?_)) | refine awp_block ?_ | refine awp_scope ?_ | refine awp_cond_t rfl ?_ | refine awp_cond_f rfl ?_)
          first | refine body_pure (.inr rfl) (by simp -implicitDefEqProofs; rfl) (by simp -implicitDefEqProofs; rfl) (by simp; exact hb1) ?_ | refine body_pure (.inl rfl) (by simp -implicitDefEqProofs; rfl) (by simp -implicitDefEqProofs; rfl) (by simp; exact hb1) ?_
          simp [insE, onev, onec, idv_s]
        · repeat (first | ((first | refine goes_done ?_ | refine awp_exit ?_ | refine awp_skip ?_ | refine awp_label ?_ | refine awp_ret ?_); (try simp only [vq, if_true, reduceIte, Nat.reduceEqDiff, reduceCtorEq])) | refine awp_seq ?_ | refine awp_region' (run_start (goes_eq (by simp -implicitDefEqProofs (disch := (first | omega | (simp; done) | fail)) [if_pos, if_neg, wrap_i64, tmod_pos, tdiv_pos, Int.toNat_add, q, hu2, n1, n2, n3, hj, entv_s, sesv_s, iv_s]; rfl) ?_)) | refine awp_block ?_ | refine awp_scope ?_ | refine awp_cond_t rfl ?_ | refine awp_cond_f rfl ?_)
          first | refine body_pure (.inr rfl) (by simp -implicitDefEqProofs; rfl) (by simp -implicitDefEqProofs; rfl) (by simp; exact hb1) ?_ | refine body_pure (.inl rfl) (by simp -implicitDefEqProofs; rfl) (by simp -implicitDefEqProofs; rfl) (by simp; exact hb1) ?_
          simp [insE, onev, onec, idv_s]
    have hlt : i < s.2.length := by omega
    have q : (i : Int) < (s.2.length : Int) := by omega
    obtain ⟨p, hp⟩ : ∃ p, s.2[i]? = some p := ⟨s.2[i], by simp [hlt]⟩
    have hx2 : (s.2.map onev)[i]? = some (onev p) := by simp [hp]
    have hu := onev_uni s.2
    have hi1 : i + 1 ≤ s.2.length := hlt
    have h21 : s.2.length - (i + 1) < s.2.length - i := by omega
    have hal := hDl i hi
    have hnx := hDs i p hp
    clear hlt hDl hDs hD0
    generalize D i = a at *
    obtain ⟨acc, d⟩ := a
    dsimp only at *
    refine awp_seq ?_
    refine awp_seq ?_
    refine awp_region' (run_start (goes_eq (by simp -implicitDefEqProofs (disch := (first | omega | (simp; done) | fail)) [if_pos, if_neg, wrap_i64, tmod_pos, tdiv_pos, Int.toNat_add, q]; rfl) ?_))
    refine goes_done ?_
    (try simp only [vq, if_true, reduceIte, Nat.reduceEqDiff, reduceCtorEq])
    refine awp_cond_t rfl ?_
    refine awp_skip ?_
    simp only [vq, if_true, reduceIte, Nat.reduceEqDiff, reduceCtorEq]
    refine awp_seq ?_
    refine awp_block ?_
    obtain ⟨n1, n2, n3⟩ := nbig (n := acc.length) (by omega)
    have hu2 := onev_uni acc
    obtain ⟨n4, n5, n6⟩ := nbig (n := acc.length + 1) (by omega)
    refine qcut (fun st => ∃ (X2 : AHeap) (t2 : Tok), TokAt h.length 4 X2 83 18 t2 ∧ st.le ⟨Tryz.f20.ntmps, [(2, .ref (dvc s.1 s.2 .no) 0), (3, .ref (rcf r) 0), (4, .ptr (h.length + 2) 0), (5, .ptr (h.length + 3) 0), (6, .bool (d || I.lessB r.id p.1)), (7, iv (i : Nat))], h ++ (.dead :: .dead :: .cells zd :: .cells (dvc s.1 (acc ++ if (!d && I.lessB r.id p.1) = true then [(r.id, r.inst)] else []) t2) :: X2)⟩) ?_ ?_
    · cases d with
      | true =>
        repeat (first | ((first | refine goes_done ?_ | refine awp_exit ?_ | refine awp_skip ?_ | refine awp_label ?_ | refine awp_ret ?_); (try simp only [vq, if_true, reduceIte, Nat.reduceEqDiff, reduceCtorEq])) | refine awp_seq ?_ | refine awp_region' (run_start (goes_eq (by simp -implicitDefEqProofs (disch := (first | omega | (simp; done) | fail)) [if_pos, if_neg, wrap_i64, tmod_pos, tdiv_pos, Int.toNat_add]; rfl) ?_)) | refine awp_block ?_ | refine awp_scope ?_ | refine awp_cond_t rfl ?_ | refine awp_cond_f rfl ?_)
        refine awp_draw (.q 0 (.q 1 (.q 2 (.q 3 (.q 4 (.q 5 (.q 6 (.q 7 (.q 8 (.q 9 (.q 10 (.a 11 (.q 12 (.done)))))))))))))) (by kernel_rfl) (by kernel_rfl) (tree_start (goesT_eq (by simp -implicitDefEqProofs (disch := (first | omega | (simp; done) | fail)) [if_pos, if_neg, wrap_i64, tmod_pos, tdiv_pos, Int.toNat_add, hx2, hu, onev, onec, AV.cells]; rfl) ?_))
        refine goesT_done ?_
        (try simp only [vq, if_true, reduceIte, Nat.reduceEqDiff, reduceCtorEq])
        repeat (first | ((first | refine goes_done ?_ | refine awp_exit ?_ | refine awp_skip ?_ | refine awp_label ?_ | refine awp_ret ?_); (try simp only [vq, if_true, reduceIte, Nat.reduceEqDiff, reduceCtorEq])) | refine awp_seq ?_ | refine awp_region' (run_start (goes_eq (by simp -implicitDefEqProofs (disch := (first | omega | (simp; done) | fail)) [if_pos, if_neg, wrap_i64, tmod_pos, tdiv_pos, Int.toNat_add]; rfl) ?_)) | refine awp_block ?_ | refine awp_scope ?_ | refine awp_cond_t rfl ?_ | refine awp_cond_f rfl ?_)
        exact ⟨X, tok, ht, st_keep' (by simp [dvc, rcf, zd]) (by simp [dvc, rcf, zd])⟩
      | false =>
        repeat (first | ((first | refine goes_done ?_ | refine awp_exit ?_ | refine awp_skip ?_ | refine awp_label ?_ | refine awp_ret ?_); (try simp only [vq, if_true, reduceIte, Nat.reduceEqDiff, reduceCtorEq])) | refine awp_seq ?_ | refine awp_region' (run_start (goes_eq (by simp -implicitDefEqProofs (disch := (first | omega | (simp; done) | fail)) [if_pos, if_neg, wrap_i64, tmod_pos, tdiv_pos, Int.toNat_add]; rfl) ?_)) | refine awp_block ?_ | refine awp_scope ?_ | refine awp_cond_t rfl ?_ | refine awp_cond_f rfl ?_)
        refine awp_draw (.q 0 (.q 1 (.q 2 (.q 3 (.q 4 (.q 5 (.q 6 (.q 7 (.q 8 (.q 9 (.q 10 (.a 11 (.q 12 (.done)))))))))))))) (by kernel_rfl) (by kernel_rfl) (tree_start (goesT_eq (by simp -implicitDefEqProofs (disch := (first | omega | (simp; done) | fail)) [if_pos, if_neg, wrap_i64, tmod_pos, tdiv_pos, Int.toNat_add, hx2, hu, onev, onec, AV.cells]; rfl) ?_))
        refine goesT_callS (callable_of Tryz.func48) (by simp -implicitDefEqProofs (disch := (first | omega | (simp; done) | fail)) [if_pos, if_neg, wrap_i64, tmod_pos, tdiv_pos, Int.toNat_add, Iid.av, Iid.c] <;> first | rfl | omega) _ (rless_ok r.id p.1 _) ?_
        rintro _ _ ⟨rfl, rfl⟩
        cases hless : I.lessB r.id p.1 with
        | false =>
          refine goesT_eq (by simp -implicitDefEqProofs (disch := (first | omega | (simp; done) | fail)) [if_pos, if_neg, wrap_i64, tmod_pos, tdiv_pos, Int.toNat_add]; rfl) ?_
          refine goesT_done ?_
          (try simp only [vq, if_true, reduceIte, Nat.reduceEqDiff, reduceCtorEq])
          repeat (first | ((first | refine goes_done ?_ | refine awp_exit ?_ | refine awp_skip ?_ | refine awp_label ?_ | refine awp_ret ?_); (try simp only [vq, if_true, reduceIte, Nat.reduceEqDiff, reduceCtorEq])) | refine awp_seq ?_ | refine awp_region' (run_start (goes_eq (by simp -implicitDefEqProofs (disch := (first | omega | (simp; done) | fail)) [if_pos, if_neg, wrap_i64, tmod_pos, tdiv_pos, Int.toNat_add]; rfl) ?_)) | refine awp_block ?_ | refine awp_scope ?_ | refine awp_cond_t rfl ?_ | refine awp_cond_f rfl ?_)
          exact ⟨X, tok, ht, st_keep' (by simp [dvc, rcf, zd]) (by simp [dvc, rcf, zd])⟩
        | true =>
          refine goesT_eq (by simp -implicitDefEqProofs (disch := (first | omega | (simp; done) | fail)) [if_pos, if_neg, wrap_i64, tmod_pos, tdiv_pos, Int.toNat_add]; rfl) ?_
          refine goesT_done ?_
          (try simp only [vq, if_true, reduceIte, Nat.reduceEqDiff, reduceCtorEq])
          rcases ht with rfl | ⟨j, rfl, hj⟩
          · repeat (first | ((first | refine goes_done ?_ | refine awp_exit ?_ | refine awp_skip ?_ | refine awp_label ?_ | refine awp_ret ?_); (try simp only [vq, if_true, reduceIte, Nat.reduceEqDiff, reduceCtorEq])) | refine awp_seq ?_ | refine awp_region' (run_start (goes_eq (by simp -implicitDefEqProofs (disch := (first | omega | (simp; done) | fail)) [if_pos, if_neg, wrap_i64, tmod_pos, tdiv_pos, Int.toNat_add, n1, n2, n3, hu2]; rfl) ?_)) | refine awp_block ?_ | refine awp_scope ?_ | refine awp_cond_t rfl ?_ | refine awp_cond_f rfl ?_)
            exact ⟨X ++ [.tail 83 18], .own (h.length + (X.length + 4)), .new (by simp), st_keep' (by simp [dvc, rcf, zd, onev, onec]) (by simp [dvc, rcf, zd, onev, onec])⟩
          · repeat (first | ((first | refine goes_done ?_ | refine awp_exit ?_ | refine awp_skip ?_ | refine awp_label ?_ | refine awp_ret ?_); (try simp only [vq, if_true, reduceIte, Nat.reduceEqDiff, reduceCtorEq])) | refine awp_seq ?_ | refine awp_region' (run_start (goes_eq (by simp -implicitDefEqProofs (disch := (first | omega | (simp; done) | fail)) [if_pos, if_neg, wrap_i64, tmod_pos, tdiv_pos, Int.toNat_add, n1, n2, n3, hj, hu2]; rfl) ?_)) | refine awp_block ?_ | refine awp_scope ?_ | refine awp_cond_t rfl ?_ | refine awp_cond_f rfl ?_)
            exact ⟨X.set j .dead ++ [.tail 83 18], .own (h.length + (X.length + 4)), .new (by simp), st_keep' (by simp [dvc, rcf, zd, onev, onec]) (by simp [dvc, rcf, zd, onev, onec])⟩
    · rintro st ⟨X2, t2, ht2, hle⟩
      refine awp_le hle ?_
      clear hle ht
      unfold dvc zd rcf
      have ha2 : (acc ++ if (!d && I.lessB r.id p.1) = true then [(r.id, r.inst)] else []).length ≤ acc.length + 1 := by split <;> simp
      have hnx2 : D (i + 1) = ((acc ++ if (!d && I.lessB r.id p.1) = true then [(r.id, r.inst)] else []) ++ (if p.1 = r.id then [] else [p]), d || I.lessB r.id p.1) := hnx
      clear hnx hu2 n1 n2 n3 n4 n5 n6
      generalize (acc ++ if (!d && I.lessB r.id p.1) = true then [(r.id, r.inst)] else []) = ac2 at *
      generalize (d || I.lessB r.id p.1) = d2 at *
      obtain ⟨n1, n2, n3⟩ := nbig (n := ac2.length) (by omega)
      have hu2 := onev_uni ac2
      by_cases hpk : p.1 = r.id
      · have e1 : (p.1.e != r.id.e || (p.1.n != r.id.n || p.1.o != r.id.o)) = false := by rw [neb]; simpa using hpk
        have e2 : (p.1.e == r.id.e && (p.1.n == r.id.n && p.1.o == r.id.o)) = true := by rw [eqb]; simpa using hpk
        repeat (first | ((first | refine goes_done ?_ | refine awp_exit ?_ | refine awp_skip ?_ | refine awp_label ?_ | refine awp_ret ?_); (try simp only [vq, if_true, reduceIte, Nat.reduceEqDiff, reduceCtorEq])) | refine awp_seq ?_ | refine awp_region' (run_start (goes_eq (by simp -implicitDefEqProofs (disch := (first | omega | (simp; done) | fail)) [if_pos, if_neg, wrap_i64, tmod_pos, tdiv_pos, Int.toNat_add]; rfl) ?_)) | refine awp_block ?_ | refine awp_scope ?_ | refine awp_cond_t rfl ?_ | refine awp_cond_f rfl ?_)
        refine awp_draw (.q 0 (.q 1 (.q 2 (.q 3 (.q 4 (.q 5 (.q 6 (.q 7 (.q 8 (.done)))))))))) (by kernel_rfl) (by kernel_rfl) (tree_start (goesT_eq (by simp -implicitDefEqProofs (disch := (first | omega | (simp; done) | fail)) [if_pos, if_neg, wrap_i64, tmod_pos, tdiv_pos, Int.toNat_add, hx2, hu, onev, onec, AV.cells, e1, e2]; rfl) ?_))
        refine goesT_done ?_
        (try simp only [vq, if_true, reduceIte, Nat.reduceEqDiff, reduceCtorEq])
        repeat (first | ((first | refine goes_done ?_ | refine awp_exit ?_ | refine awp_skip ?_ | refine awp_label ?_ | refine awp_ret ?_); (try simp only [vq, if_true, reduceIte, Nat.reduceEqDiff, reduceCtorEq])) | refine awp_seq ?_ | refine awp_region' (run_start (goes_eq (by simp -implicitDefEqProofs (disch := (first | omega | (simp; done) | fail)) [if_pos, if_neg, wrap_i64, tmod_pos, tdiv_pos, Int.toNat_add]; rfl) ?_)) | refine awp_block ?_ | refine awp_scope ?_ | refine awp_cond_t rfl ?_ | refine awp_cond_f rfl ?_)
        refine ⟨s.2.length - (i + 1), h21, i + 1, X2, t2, rfl, hi1, ht2, ?_⟩
        rw [hnx2, if_pos hpk, List.append_nil]
        exact st_keep' (by simp [dvc, zd, rcf]) (by simp [dvc, zd, rcf])
      · have e1 : (p.1.e != r.id.e || (p.1.n != r.id.n || p.1.o != r.id.o)) = true := by rw [neb]; simpa using hpk
        have e2 : (p.1.e == r.id.e && (p.1.n == r.id.n && p.1.o == r.id.o)) = false := by rw [eqb]; simpa using hpk
        repeat (first | ((first | refine goes_done ?_ | refine awp_exit ?_ | refine awp_skip ?_ | refine awp_label ?_ | refine awp_ret ?_); (try simp only [vq, if_true, reduceIte, Nat.reduceEqDiff, reduceCtorEq])) | refine awp_seq ?_ | refine awp_region' (run_start (goes_eq (by simp -implicitDefEqProofs (disch := (first | omega | (simp; done) | fail)) [if_pos, if_neg, wrap_i64, tmod_pos, tdiv_pos, Int.toNat_add]; rfl) ?_)) | refine awp_block ?_ | refine awp_scope ?_ | refine awp_cond_t rfl ?_ | refine awp_cond_f rfl ?_)
        refine awp_draw (.q 0 (.q 1 (.q 2 (.q 3 (.q 4 (.q 5 (.q 6 (.q 7 (.q 8 (.done)))))))))) (by kernel_rfl) (by kernel_rfl) (tree_start (goesT_eq (by simp -implicitDefEqProofs (disch := (first | omega | (simp; done) | fail)) [if_pos, if_neg, wrap_i64, tmod_pos, tdiv_pos, Int.toNat_add, hx2, hu, onev, onec, AV.cells, e1, e2]; rfl) ?_))
        refine goesT_done ?_
        (try simp only [vq, if_true, reduceIte, Nat.reduceEqDiff, reduceCtorEq])
        rcases ht2 with rfl | ⟨j, rfl, hj⟩
        · repeat (first | ((first | refine goes_done ?_ | refine awp_exit ?_ | refine awp_skip ?_ | refine awp_label ?_ | refine awp_ret ?_); (try simp only [vq, if_true, reduceIte, Nat.reduceEqDiff, reduceCtorEq])) | refine awp_seq ?_ | refine awp_region' (run_start (goes_eq (by simp -implicitDefEqProofs (disch := (first | omega | (simp; done) | fail)) [if_pos, if_neg, wrap_i64, tmod_pos, tdiv_pos, Int.toNat_add]; rfl) ?_)) | refine awp_block ?_ | refine awp_scope ?_ | refine awp_cond_t rfl ?_ | refine awp_cond_f rfl ?_)
          refine awp_draw (.q 0 (.q 2 (.q 3 (.q 4 (.q 5 (.q 6 (.two 1 7 (.a 7 (.a 8 (.q 9 (.a 10 (.done))))) (.a 1 (.a 8 (.q 9 (.a 10 (.done)))))))))))) (by kernel_rfl) (by kernel_rfl) (tree_start (goesT_eq (by simp -implicitDefEqProofs (disch := (first | omega | (simp; done) | fail)) [if_pos, if_neg, wrap_i64, tmod_pos, tdiv_pos, Int.toNat_add, hx2, hu, hu2, onev, onec, AV.cells, n1, n2, n3]; rfl) ?_))
          refine goesT_two (goesT_eq (by simp -implicitDefEqProofs (disch := (first | omega | (simp; done) | fail)) [if_pos, if_neg, wrap_i64, tmod_pos, tdiv_pos, Int.toNat_add, hx2, hu, hu2, onev, onec, AV.cells, n1, n2, n3]; rfl) (by
            refine goesT_done ?_
            (try simp only [vq, if_true, reduceIte, Nat.reduceEqDiff, reduceCtorEq])
            repeat (first | ((first | refine goes_done ?_ | refine awp_exit ?_ | refine awp_skip ?_ | refine awp_label ?_ | refine awp_ret ?_); (try simp only [vq, if_true, reduceIte, Nat.reduceEqDiff, reduceCtorEq])) | refine awp_seq ?_ | refine awp_region' (run_start (goes_eq (by simp -implicitDefEqProofs (disch := (first | omega | (simp; done) | fail)) [if_pos, if_neg, wrap_i64, tmod_pos, tdiv_pos, Int.toNat_add]; rfl) ?_)) | refine awp_block ?_ | refine awp_scope ?_ | refine awp_cond_t rfl ?_ | refine awp_cond_f rfl ?_)
            refine ⟨s.2.length - (i + 1), h21, i + 1, X2 ++ [.tail 83 18], .own (h.length + (X2.length + 4)), rfl, hi1, .new (by simp), ?_⟩
            rw [hnx2, if_neg hpk]
            exact st_keep' (by simp [dvc, zd, rcf, onev, onec]) (by simp [dvc, zd, rcf, onev, onec]))) (goesT_eq (by simp -implicitDefEqProofs (disch := (first | omega | (simp; done) | fail)) [if_pos, if_neg, wrap_i64, tmod_pos, tdiv_pos, Int.toNat_add, hx2, hu, hu2, onev, onec, AV.cells, n1, n2, n3]; rfl) (by
            refine goesT_done ?_
            (try simp only [vq, if_true, reduceIte, Nat.reduceEqDiff, reduceCtorEq])
            repeat (first | ((first | refine goes_done ?_ | refine awp_exit ?_ | refine awp_skip ?_ | refine awp_label ?_ | refine awp_ret ?_); (try simp only [vq, if_true, reduceIte, Nat.reduceEqDiff, reduceCtorEq])) | refine awp_seq ?_ | refine awp_region' (run_start (goes_eq (by simp -implicitDefEqProofs (disch := (first | omega | (simp; done) | fail)) [if_pos, if_neg, wrap_i64, tmod_pos, tdiv_pos, Int.toNat_add]; rfl) ?_)) | refine awp_block ?_ | refine awp_scope ?_ | refine awp_cond_t rfl ?_ | refine awp_cond_f rfl ?_)
            refine ⟨s.2.length - (i + 1), h21, i + 1, X2 ++ [.tail 83 18], .own (h.length + (X2.length + 4)), rfl, hi1, .new (by simp), ?_⟩
            rw [hnx2, if_neg hpk]
            exact st_keep' (by simp [dvc, zd, rcf, onev, onec]) (by simp [dvc, zd, rcf, onev, onec])))
        · repeat (first | ((first | refine goes_done ?_ | refine awp_exit ?_ | refine awp_skip ?_ | refine awp_label ?_ | refine awp_ret ?_); (try simp only [vq, if_true, reduceIte, Nat.reduceEqDiff, reduceCtorEq])) | refine awp_seq ?_ | refine awp_region' (run_start (goes_eq (by simp -implicitDefEqProofs (disch := (first | omega | (simp; done) | fail)) [if_pos, if_neg, wrap_i64, tmod_pos, tdiv_pos, Int.toNat_add]; rfl) ?_)) | refine awp_block ?_ | refine awp_scope ?_ | refine awp_cond_t rfl ?_ | refine awp_cond_f rfl ?_)
          refine awp_draw (.q 0 (.q 2 (.q 3 (.q 4 (.q 5 (.q 6 (.two 1 7 (.a 7 (.a 8 (.q 9 (.a 10 (.done))))) (.a 1 (.a 8 (.q 9 (.a 10 (.done)))))))))))) (by kernel_rfl) (by kernel_rfl) (tree_start (goesT_eq (by simp -implicitDefEqProofs (disch := (first | omega | (simp; done) | fail)) [if_pos, if_neg, wrap_i64, tmod_pos, tdiv_pos, Int.toNat_add, hx2, hu, hu2, onev, onec, AV.cells, n1, n2, n3, hj]; rfl) ?_))
          refine goesT_two (goesT_eq (by simp -implicitDefEqProofs (disch := (first | omega | (simp; done) | fail)) [if_pos, if_neg, wrap_i64, tmod_pos, tdiv_pos, Int.toNat_add, hx2, hu, hu2, onev, onec, AV.cells, n1, n2, n3, hj]; rfl) (by
            refine goesT_done ?_
            (try simp only [vq, if_true, reduceIte, Nat.reduceEqDiff, reduceCtorEq])
            repeat (first | ((first | refine goes_done ?_ | refine awp_exit ?_ | refine awp_skip ?_ | refine awp_label ?_ | refine awp_ret ?_); (try simp only [vq, if_true, reduceIte, Nat.reduceEqDiff, reduceCtorEq])) | refine awp_seq ?_ | refine awp_region' (run_start (goes_eq (by simp -implicitDefEqProofs (disch := (first | omega | (simp; done) | fail)) [if_pos, if_neg, wrap_i64, tmod_pos, tdiv_pos, Int.toNat_add]; rfl) ?_)) | refine awp_block ?_ | refine awp_scope ?_ | refine awp_cond_t rfl ?_ | refine awp_cond_f rfl ?_)
            refine ⟨s.2.length - (i + 1), h21, i + 1, (X2.set j .dead) ++ [.tail 83 18], .own (h.length + (X2.length + 4)), rfl, hi1, .new (by simp), ?_⟩
            rw [hnx2, if_neg hpk]
            exact st_keep' (by simp [dvc, zd, rcf, onev, onec]) (by simp [dvc, zd, rcf, onev, onec]))) (goesT_eq (by simp -implicitDefEqProofs (disch := (first | omega | (simp; done) | fail)) [if_pos, if_neg, wrap_i64, tmod_pos, tdiv_pos, Int.toNat_add, hx2, hu, hu2, onev, onec, AV.cells, n1, n2, n3, hj]; rfl) (by
            refine goesT_done ?_
            (try simp only [vq, if_true, reduceIte, Nat.reduceEqDiff, reduceCtorEq])
            repeat (first | ((first | refine goes_done ?_ | refine awp_exit ?_ | refine awp_skip ?_ | refine awp_label ?_ | refine awp_ret ?_); (try simp only [vq, if_true, reduceIte, Nat.reduceEqDiff, reduceCtorEq])) | refine awp_seq ?_ | refine awp_region' (run_start (goes_eq (by simp -implicitDefEqProofs (disch := (first | omega | (simp; done) | fail)) [if_pos, if_neg, wrap_i64, tmod_pos, tdiv_pos, Int.toNat_add]; rfl) ?_)) | refine awp_block ?_ | refine awp_scope ?_ | refine awp_cond_t rfl ?_ | refine awp_cond_f rfl ?_)
            refine ⟨s.2.length - (i + 1), h21, i + 1, (X2.set j .dead) ++ [.tail 83 18], .own (h.length + (X2.length + 4)), rfl, hi1, .new (by simp), ?_⟩
            rw [hnx2, if_neg hpk]
            exact st_keep' (by simp [dvc, zd, rcf, onev, onec]) (by simp [dvc, zd, rcf, onev, onec])))
  · refine ⟨0, [], .full, rfl, by omega, .full, ?_⟩
    rw [hD0]
    exact st_keep' (by simp [dvc, zd, rcf]) (by simp [dvc, zd, rcf])
end Go.Proofs.YtdncoobpdllpkaaGreat.Q
