import Derived.Test.YtdncoobpdllpkaaGreatDD
import Derived.Test.YtdncoobpdllpkaaGreatDA
/- Bytes as messages, the document's reader: numbers, texts, sizes. -/
set_option linter.unusedVariables false
set_option linter.unusedSimpArgs false
set_option maxRecDepth 20000
namespace Go.Proofs.YtdncoobpdllpkaaGreat.D
open Go Go.Proofs.YtdncoobpdllpkaaGreat.V Go.Proofs.YtdncoobpdllpkaaGreat.N
/-- The document's reader: bytes, a place, an error. -/
def rdr (B : List UInt8) (a e : Nat) : AObj := .cells [.str B, .int .i64 (a : Nat), .int .i64 (e : Nat)]
def ISt (B : List UInt8) (st : St) (a e : Nat) : Prop :=
  a ≤ B.length ∧ match st with
  | .ok l => e = 0 ∧ B.drop a = l
  | .error e' => e' ≠ 0 ∧ e = e'
def RI (h : AHeap) (rid : Nat) (B : List UInt8) (st : St) (h1 : AHeap) : Prop := ∃ a e, h1 = h.set rid (rdr B a e) ∧ rid < h.length ∧ ISt B st a e
theorem RI.get {h : AHeap} {rid : Nat} {B : List UInt8} {st : St} {h1 : AHeap} (r : RI h rid B st h1) : ∃ a e, h1[rid]? = some (rdr B a e) ∧ ISt B st a e := by
  obtain ⟨a, e, rfl, hl, hs⟩ := r
  exact ⟨a, e, by simp [hl], hs⟩
theorem RI.now {h : AHeap} {rid : Nat} {B : List UInt8} {st : St} {h1 : AHeap} (r : RI h rid B st h1) (l : AHeap) : RI (h1 ++ l) rid B st (h1 ++ l) := by
  obtain ⟨a, e, rfl, hl, hs⟩ := r
  refine ⟨a, e, ?_, by simp; omega, hs⟩
  rw [List.set_append_left _ _ (by simpa using hl), List.set_set]
theorem RI.step {h : AHeap} {rid : Nat} {B : List UInt8} {st st' : St} {h1 l h2 : AHeap} (r : RI h rid B st h1) (q : RI (h1 ++ l) rid B st' h2) : ∃ h3, h2 = h3 ++ l ∧ h3.length = h1.length ∧ RI h rid B st' h3 := by
  obtain ⟨a, e, rfl, hl, hs⟩ := r
  obtain ⟨a', e', rfl, hl', hs'⟩ := q
  refine ⟨h.set rid (rdr B a' e'), ?_, by simp, a', e', rfl, hl, hs'⟩
  rw [List.set_append_left _ _ (by simpa using hl), List.set_set]
theorem RI.set {h : AHeap} {rid : Nat} {B : List UInt8} {st st' : St} {h1 : AHeap} {a e : Nat} (r : RI h rid B st h1) (hs : ISt B st' a e) : RI h rid B st' (h1.set rid (rdr B a e)) := by
  obtain ⟨a', e', rfl, hl, hs'⟩ := r
  exact ⟨a, e, by rw [List.set_set], hl, hs⟩
theorem body_ri {P : Program} {rs : Array ResultVar} {h0 : AHeap} {R : AV → AHeap → Prop} {e : Exit} {n rid : Nat} {s : Slots} {B : List UInt8} {st : St} {h1 k : AHeap} {x y : AV} (ri : RI h0 rid B st h1) (he : e = .normal ∨ e = .ret) (hx : aresults P rs s (h1 ++ k) = some y) (hy : y.strip = x) (hb : Bel h1.length x) (hR : R x h1) :
    BodyPost P rs h0 R e ⟨n, s, h1 ++ k⟩ := by
  refine ⟨he, y, hx, x, .inr hy.symm, h1, k, rfl, ?_, .inr ⟨fun id o h => ?_, hb⟩, hR⟩
  · obtain ⟨a, e, rfl, hl, hs⟩ := ri; simp
  · obtain ⟨a, e, rfl, hl, hs⟩ := ri
    by_cases hi : id = rid
    · subst hi
      rw [List.getElem?_set_self hl] at h
      injection h with h
      subst h
      refine .inr fun i hi => ?_
      have : i = 0 ∨ i = 1 ∨ i = 2 := by simp [rdr] at hi; omega
      rcases this with rfl | rfl | rfl
      · exact .str _
      · exact .int _ _
      · exact .int _ _
    · rw [List.getElem?_set_ne (fun e => hi e.symm)] at h; exact .inl h
/-- Of a value: what is read, where it is read. -/
def Val {α : Type} (f : Spec α) (st : St) (x : α) : Prop := ∀ l p, st = .ok l → f l = .ok p → x = p.1
def IRd {α : Type} (f : FuncId) (s : Spec α) (av : α → AV) : Prop := ∀ (h : AHeap) (rid : Nat) (B : List UInt8) (st : St), B.length ≤ 100000 → RI h rid B st h →
  ACalls Tryz.prog f [.agg [.ptr rid 0]] h fun r h' => (∃ x, r = av x ∧ Val s st x) ∧ RI h rid B (runT s st) h'
theorem iend_ok (h : AHeap) (rid : Nat) (B : List UInt8) (st : St) (hB : B.length ≤ 100000) (ri : RI h rid B st h) : ACalls Tryz.prog 46 [.ptr rid 0] h fun r h' => r = .int .i64 (endE st) ∧ h' = h := by
  obtain ⟨a, e, hr, ha, hs⟩ := ri.get
  unfold rdr at hr
  refine acalls_of_awp Tryz.func46 rfl (by simp only [List.length_cons, List.length_nil]; decide) ?_
  simp only [params_cons, params_nil]
  repeat (first | ((first | refine zd ?_ | refine zx ?_ | refine zk ?_ | refine zl ?_ | refine zr ?_); refine zq ?_) | refine zs ?_ | refine zg ?_ | refine zb ?_ | refine zo ?_ | refine zt ?_ | refine zf ?_)
  cases st with
  | ok l =>
    obtain ⟨rfl, rfl⟩ := hs
    have hr0 : h[rid]? = some (.cells [.str B, .int .i64 (a : Nat), .int .i64 0]) := hr
    by_cases h1 : a < B.length
    · have h2 : (a : Int) < (B.length : Int) := by omega
      refine awp_draw (.q 0 (.q 1 (.q 2 (.a 3 (.q 4 (.q 5 (.q 6 (.q 7 (.q 8 (.q 10 (.q 11 (.q 12 (.two 9 13 (.a 13 (.q 14 (.q 15 (.q 16 (.done))))) (.q 14 (.a 9 (.q 15 (.q 16 (.done)))))))))))))))))) (by kernel_rfl) (by kernel_rfl) (tree_start (goesT_eq (by simp -implicitDefEqProofs (disch := (first | omega | (simp; done) | fail)) [if_pos, if_neg, wrap_i64, tmod_pos, tdiv_pos, Int.toNat_add, hr0, h2]; rfl) ?_))
      all_goals repeat' (first | (refine goesT_two (goesT_eq (by simp -implicitDefEqProofs (disch := (first | omega | (simp; done) | fail)) [if_pos, if_neg, wrap_i64, tmod_pos, tdiv_pos, Int.toNat_add, hr0, h2]; rfl) ?_) (goesT_eq (by simp -implicitDefEqProofs (disch := (first | omega | (simp; done) | fail)) [if_pos, if_neg, wrap_i64, tmod_pos, tdiv_pos, Int.toNat_add, hr0, h2]; rfl) ?_)) | (refine goesT_three (goesT_eq (by simp -implicitDefEqProofs (disch := (first | omega | (simp; done) | fail)) [if_pos, if_neg, wrap_i64, tmod_pos, tdiv_pos, Int.toNat_add, hr0, h2]; rfl) ?_) (goesT_eq (by simp -implicitDefEqProofs (disch := (first | omega | (simp; done) | fail)) [if_pos, if_neg, wrap_i64, tmod_pos, tdiv_pos, Int.toNat_add, hr0, h2]; rfl) ?_) (goesT_eq (by simp -implicitDefEqProofs (disch := (first | omega | (simp; done) | fail)) [if_pos, if_neg, wrap_i64, tmod_pos, tdiv_pos, Int.toNat_add, hr0, h2]; rfl) ?_)))
      all_goals
        refine goesT_done ?_
        (try simp only [vq, if_true, reduceIte, Nat.reduceEqDiff, reduceCtorEq])
        repeat (first | ((first | refine zd ?_ | refine zx ?_ | refine zk ?_ | refine zl ?_ | refine zr ?_); refine zq ?_) | refine zs ?_ | refine zg ?_ | refine zb ?_ | refine zo ?_ | refine zt ?_ | refine zf ?_)
        first | refine zY (.inr rfl) ?_ | refine zY (.inl rfl) ?_
        simp [endE, h1]
    · have h2 : ¬ (a : Int) < (B.length : Int) := by omega
      refine awp_draw (.q 0 (.q 1 (.q 2 (.a 3 (.q 4 (.q 5 (.q 6 (.q 7 (.q 8 (.q 10 (.q 11 (.q 12 (.two 9 13 (.a 13 (.q 14 (.q 15 (.q 16 (.done))))) (.q 14 (.a 9 (.q 15 (.q 16 (.done)))))))))))))))))) (by kernel_rfl) (by kernel_rfl) (tree_start (goesT_eq (by simp -implicitDefEqProofs (disch := (first | omega | (simp; done) | fail)) [if_pos, if_neg, wrap_i64, tmod_pos, tdiv_pos, Int.toNat_add, hr0, h2]; rfl) ?_))
      all_goals repeat' (first | (refine goesT_two (goesT_eq (by simp -implicitDefEqProofs (disch := (first | omega | (simp; done) | fail)) [if_pos, if_neg, wrap_i64, tmod_pos, tdiv_pos, Int.toNat_add, hr0, h2]; rfl) ?_) (goesT_eq (by simp -implicitDefEqProofs (disch := (first | omega | (simp; done) | fail)) [if_pos, if_neg, wrap_i64, tmod_pos, tdiv_pos, Int.toNat_add, hr0, h2]; rfl) ?_)) | (refine goesT_three (goesT_eq (by simp -implicitDefEqProofs (disch := (first | omega | (simp; done) | fail)) [if_pos, if_neg, wrap_i64, tmod_pos, tdiv_pos, Int.toNat_add, hr0, h2]; rfl) ?_) (goesT_eq (by simp -implicitDefEqProofs (disch := (first | omega | (simp; done) | fail)) [if_pos, if_neg, wrap_i64, tmod_pos, tdiv_pos, Int.toNat_add, hr0, h2]; rfl) ?_) (goesT_eq (by simp -implicitDefEqProofs (disch := (first | omega | (simp; done) | fail)) [if_pos, if_neg, wrap_i64, tmod_pos, tdiv_pos, Int.toNat_add, hr0, h2]; rfl) ?_)))
      all_goals
        refine goesT_done ?_
        (try simp only [vq, if_true, reduceIte, Nat.reduceEqDiff, reduceCtorEq])
        repeat (first | ((first | refine zd ?_ | refine zx ?_ | refine zk ?_ | refine zl ?_ | refine zr ?_); refine zq ?_) | refine zs ?_ | refine zh (by simp -implicitDefEqProofs (disch := (first | omega | (simp; done) | fail)) [if_pos, if_neg, wrap_i64, tmod_pos, tdiv_pos, Int.toNat_add, hr0, h2]; rfl) ?_ | refine zb ?_ | refine zo ?_ | refine zt ?_ | refine zf ?_)
        first | refine zY (.inr rfl) ?_ | refine zY (.inl rfl) ?_
        have h3 : B.length ≤ a := by omega
        simp [endE, h3]
  | error e' =>
    obtain ⟨he, rfl⟩ := hs
    have h2 : ((e : Int) == 0) = false := by simp; omega
    refine awp_draw (.q 0 (.q 1 (.q 2 (.a 3 (.q 4 (.q 5 (.q 6 (.q 7 (.q 8 (.q 10 (.q 11 (.q 12 (.two 9 13 (.a 13 (.q 14 (.q 15 (.q 16 (.done))))) (.q 14 (.a 9 (.q 15 (.q 16 (.done)))))))))))))))))) (by kernel_rfl) (by kernel_rfl) (tree_start (goesT_eq (by simp -implicitDefEqProofs (disch := (first | omega | (simp; done) | fail)) [if_pos, if_neg, wrap_i64, tmod_pos, tdiv_pos, Int.toNat_add, hr, h2]; rfl) ?_))
    all_goals repeat' (first | (refine goesT_two (goesT_eq (by simp -implicitDefEqProofs (disch := (first | omega | (simp; done) | fail)) [if_pos, if_neg, wrap_i64, tmod_pos, tdiv_pos, Int.toNat_add, hr, h2]; rfl) ?_) (goesT_eq (by simp -implicitDefEqProofs (disch := (first | omega | (simp; done) | fail)) [if_pos, if_neg, wrap_i64, tmod_pos, tdiv_pos, Int.toNat_add, hr, h2]; rfl) ?_)) | (refine goesT_three (goesT_eq (by simp -implicitDefEqProofs (disch := (first | omega | (simp; done) | fail)) [if_pos, if_neg, wrap_i64, tmod_pos, tdiv_pos, Int.toNat_add, hr, h2]; rfl) ?_) (goesT_eq (by simp -implicitDefEqProofs (disch := (first | omega | (simp; done) | fail)) [if_pos, if_neg, wrap_i64, tmod_pos, tdiv_pos, Int.toNat_add, hr, h2]; rfl) ?_) (goesT_eq (by simp -implicitDefEqProofs (disch := (first | omega | (simp; done) | fail)) [if_pos, if_neg, wrap_i64, tmod_pos, tdiv_pos, Int.toNat_add, hr, h2]; rfl) ?_)))
    all_goals
      refine goesT_done ?_
      (try simp only [vq, if_true, reduceIte, Nat.reduceEqDiff, reduceCtorEq])
      repeat (first | ((first | refine zd ?_ | refine zx ?_ | refine zk ?_ | refine zl ?_ | refine zr ?_); refine zq ?_) | refine zs ?_ | refine zh (by simp -implicitDefEqProofs (disch := (first | omega | (simp; done) | fail)) [if_pos, if_neg, wrap_i64, tmod_pos, tdiv_pos, Int.toNat_add, hr, h2]; rfl) ?_ | refine zb ?_ | refine zo ?_ | refine zt ?_ | refine zf ?_)
      first | refine zY (.inr rfl) ?_ | refine zY (.inl rfl) ?_
      simp [endE]
theorem any_numG : ∀ (f i n : Nat) (l : List UInt8), (numG f i n l).2.2 ≠ 0 → (numG f i n l).2.2 = if (l.any fun d => decide ((d.toNat : Int) < 128)) = true ∨ f ≤ l.length then 11 else 10
  | 0, i, n, l, h => by simp [numG]
  | f + 1, i, n, [], h => by simp [numG]
  | f + 1, i, n, d :: r, h => by
    unfold numG at h ⊢
    by_cases h1 : 128 ≤ d.toNat
    · rw [if_pos h1] at h ⊢
      rw [any_numG f _ _ r h]
      have h2 : decide ((d.toNat : Int) < 128) = false := by simp; omega
      simp [h2]
    · rw [if_neg h1] at h ⊢
      have h2 : decide ((d.toNat : Int) < 128) = true := by simp; omega
      split at h
      · simp at h
      · rename_i hs
        rw [if_neg hs]
        simp [h2]
theorem any_take (l : List UInt8) (j : Nat) (hj : j < l.length) (p : UInt8 → Bool) : (l.take (j + 1)).any p = ((l.take j).any p || p l[j]) := by
  rw [List.take_succ_eq_append_getElem hj, List.any_append]; simp only [List.any_cons, List.any_nil, Bool.or_false]
theorem awp_cut_block {P : Program} {E : Env P} {c : Code} {id : Nat} {N : ASt → Prop} {Q : Post} {st : ASt} (J : ASt → Prop) (h1 : AWP E c (Post.block id (Post.then J Q)) st) (h2 : ∀ s, J s → N s) : AWP E c (Post.block id (Post.then N Q)) st :=
  h1.mono fun e s hq => by
    cases e with
    | normal => exact h2 s hq
    | exit i =>
      simp only [Post.block] at hq ⊢
      split
      · rename_i e; rw [if_pos e] at hq; exact h2 s hq
      · rename_i e; rw [if_neg e] at hq; exact hq
    | _ => exact hq
theorem inum_ok (h : AHeap) (rid : Nat) (B : List UInt8) (st : St) (hB : B.length ≤ 100000) (ri : RI h rid B st h) : ACalls Tryz.prog 64 [.ptr rid 0] h fun r h' => r = .int .i64 (runV rdNum 0 st) ∧ RI h rid B (runT rdNum st) h' := by
  have ri0 := ri
  obtain ⟨a, e, hr, ha, hs⟩ := ri.get
  unfold rdr at hr
  cases st with
  | error e' =>
    obtain ⟨he, rfl⟩ := hs
    have h2 : ((e : Int) != 0) = true := by simp; omega
    refine acalls_of_awp Tryz.func64 rfl (by simp only [List.length_cons, List.length_nil]; decide) ?_
    simp only [params_cons, params_nil]
    repeat (first | ((first | refine zd ?_ | refine zx ?_ | refine zk ?_ | refine zl ?_ | refine zr ?_); refine zq ?_) | refine zs ?_ | refine zh (by simp -implicitDefEqProofs (disch := (first | omega | (simp; done) | fail)) [if_pos, if_neg, wrap_i64, tmod_pos, tdiv_pos, Int.toNat_add, hr, h2]; rfl) ?_ | refine zb ?_ | refine zo ?_ | refine zt ?_ | refine zf ?_)
    first | refine zY (.inr rfl) ?_ | refine zY (.inl rfl) ?_
    exact ⟨rfl, ri0⟩
  | ok l =>
  obtain ⟨rfl, rfl⟩ := hs
  have hr0 : h[rid]? = some (.cells [.str B, .int .i64 (a : Nat), .int .i64 0]) := hr
  generalize hl0 : B.drop a = l at *
  have hll : l.length = B.length - a := by rw [← hl0]; simp
  refine acalls_of_awp Tryz.func64 rfl (by simp only [List.length_cons, List.length_nil]; decide) ?_
  simp only [params_cons, params_nil]
  repeat (first | ((first | refine zd ?_ | refine zx ?_ | refine zk ?_ | refine zl ?_ | refine zr ?_); refine zq ?_) | refine zs ?_ | refine zh (by simp -implicitDefEqProofs (disch := (first | omega | (simp; done) | fail)) [if_pos, if_neg, wrap_i64, tmod_pos, tdiv_pos, Int.toNat_add, hr0]; rfl) ?_ | refine zb ?_ | refine zo ?_ | refine zt ?_ | refine zf ?_)
  refine awp_cut_block (fun st' => (numB l).2.2 ≠ 0 ∧ st'.le ⟨Tryz.f64.ntmps, [(0, .ptr rid 0)], h⟩) ?_ ?_
  rotate_left
  · rintro st' ⟨hne, hle⟩
    refine awp_le hle ?_
    clear hle
    have ha1 : ∀ x : AObj, (h.set rid x)[rid]? = some x := fun x => by obtain ⟨a, e, _, hl, _⟩ := ri; simp [hl]
    have ri1 := ri0.set (a := a) (e := (numB l).2.2) (st' := .error (numB l).2.2) ⟨ha, hne, rfl⟩
    have e1 : rdNum l = .error (numB l).2.2 := by unfold rdNum; rw [if_neg hne]
    have e2 := any_numG 8 0 0 l hne
    change (numB l).2.2 = _ at e2
    generalize (numB l).2.2 = ne at *
    repeat (first | ((first | refine zd ?_ | refine zx ?_ | refine zk ?_ | refine zl ?_ | refine zr ?_); refine zq ?_) | refine zs ?_ | refine zh (by simp -implicitDefEqProofs (disch := (first | omega | (simp; done) | fail)) [if_pos, if_neg, wrap_i64, tmod_pos, tdiv_pos, Int.toNat_add, hr0, ha1]; rfl) ?_ | refine zb ?_ | refine zo ?_ | refine zt ?_ | refine zf ?_)
    refine awp_cut_block (fun st' => st'.le ⟨Tryz.f64.ntmps, [(0, .ptr rid 0), (6, .bool (l.any fun d => decide ((d.toNat : Int) < 128)))], h.set rid (.cells [.str B, .int .i64 (a : Nat), .int .i64 11])⟩) ?_ ?_
    rotate_left
    · intro st' hle
      refine awp_le hle ?_
      clear hle
      have hlen : (B.length : Int) - (a : Int) = (l.length : Int) := by omega
      generalize (l.any fun d => decide ((d.toNat : Int) < 128)) = b at *
      have hfin : ∀ x : Nat, (if b = true ∨ 8 ≤ l.length then 11 else 10) = x → RI h rid B (runT rdNum (.ok l)) (h.set rid (.cells [.str B, .int .i64 (a : Nat), .int .i64 (x : Nat)])) := fun x hx => by
        rw [run_err e1, e2, hx]; rw [e2, hx] at ri1; exact ri1
      have hv : runV rdNum 0 (.ok l) = 0 := by simp only [runV, e1]
      by_cases h8 : (l.length : Int) < 8
      · cases b with
        | true =>
          repeat (first | ((first | refine zd ?_ | refine zx ?_ | refine zk ?_ | refine zl ?_ | refine zr ?_); refine zq ?_) | refine zs ?_ | refine zg ?_ | refine zb ?_ | refine zo ?_ | refine zt ?_ | refine zf ?_)
          refine awp_draw (.q 0 (.q 1 (.q 2 (.q 3 (.q 4 (.q 5 (.q 8 (.q 9 (.q 10 (.two 6 11 (.q 7 (.a 11 (.q 12 (.q 13 (.q 14 (.done)))))) (.a 6 (.q 7 (.q 12 (.q 13 (.q 14 (.done)))))))))))))))) (by kernel_rfl) (by kernel_rfl) (tree_start (goesT_eq (by simp -implicitDefEqProofs (disch := (first | omega | (simp; done) | fail)) [if_pos, if_neg, wrap_i64, tmod_pos, tdiv_pos, Int.toNat_add, ha1, hlen, h8]; rfl) ?_))
          all_goals repeat' (first | (refine goesT_two (goesT_eq (by simp -implicitDefEqProofs (disch := (first | omega | (simp; done) | fail)) [if_pos, if_neg, wrap_i64, tmod_pos, tdiv_pos, Int.toNat_add, ha1, hlen, h8]; rfl) ?_) (goesT_eq (by simp -implicitDefEqProofs (disch := (first | omega | (simp; done) | fail)) [if_pos, if_neg, wrap_i64, tmod_pos, tdiv_pos, Int.toNat_add, ha1, hlen, h8]; rfl) ?_)) | (refine goesT_three (goesT_eq (by simp -implicitDefEqProofs (disch := (first | omega | (simp; done) | fail)) [if_pos, if_neg, wrap_i64, tmod_pos, tdiv_pos, Int.toNat_add, ha1, hlen, h8]; rfl) ?_) (goesT_eq (by simp -implicitDefEqProofs (disch := (first | omega | (simp; done) | fail)) [if_pos, if_neg, wrap_i64, tmod_pos, tdiv_pos, Int.toNat_add, ha1, hlen, h8]; rfl) ?_) (goesT_eq (by simp -implicitDefEqProofs (disch := (first | omega | (simp; done) | fail)) [if_pos, if_neg, wrap_i64, tmod_pos, tdiv_pos, Int.toNat_add, ha1, hlen, h8]; rfl) ?_)))
          all_goals
            refine goesT_done ?_
            (try simp only [vq, if_true, reduceIte, Nat.reduceEqDiff, reduceCtorEq])
            repeat (first | ((first | refine zd ?_ | refine zx ?_ | refine zk ?_ | refine zl ?_ | refine zr ?_); refine zq ?_) | refine zs ?_ | refine zh (by simp -implicitDefEqProofs (disch := (first | omega | (simp; done) | fail)) [if_pos, if_neg, wrap_i64, tmod_pos, tdiv_pos, Int.toNat_add, ha1]; rfl) ?_ | refine zb ?_ | refine zo ?_ | refine zt ?_ | refine zf ?_)
            first | refine body_all (.inr rfl) (by simp -implicitDefEqProofs; rfl) (by simp -implicitDefEqProofs; rfl) (by first | (simp; done) | (simp; omega) | omega) ?_ | refine body_all (.inl rfl) (by simp -implicitDefEqProofs; rfl) (by simp -implicitDefEqProofs; rfl) (by first | (simp; done) | (simp; omega) | omega) ?_
            exact ⟨by rw [hv], hfin 11 (by simp)⟩
        | false =>
          repeat (first | ((first | refine zd ?_ | refine zx ?_ | refine zk ?_ | refine zl ?_ | refine zr ?_); refine zq ?_) | refine zs ?_ | refine zg ?_ | refine zb ?_ | refine zo ?_ | refine zt ?_ | refine zf ?_)
          refine awp_draw (.q 0 (.q 1 (.q 2 (.q 3 (.q 4 (.q 5 (.q 8 (.q 9 (.q 10 (.two 6 11 (.q 7 (.a 11 (.q 12 (.q 13 (.q 14 (.done)))))) (.a 6 (.q 7 (.q 12 (.q 13 (.q 14 (.done)))))))))))))))) (by kernel_rfl) (by kernel_rfl) (tree_start (goesT_eq (by simp -implicitDefEqProofs (disch := (first | omega | (simp; done) | fail)) [if_pos, if_neg, wrap_i64, tmod_pos, tdiv_pos, Int.toNat_add, ha1, hlen, h8]; rfl) ?_))
          all_goals repeat' (first | (refine goesT_two (goesT_eq (by simp -implicitDefEqProofs (disch := (first | omega | (simp; done) | fail)) [if_pos, if_neg, wrap_i64, tmod_pos, tdiv_pos, Int.toNat_add, ha1, hlen, h8]; rfl) ?_) (goesT_eq (by simp -implicitDefEqProofs (disch := (first | omega | (simp; done) | fail)) [if_pos, if_neg, wrap_i64, tmod_pos, tdiv_pos, Int.toNat_add, ha1, hlen, h8]; rfl) ?_)) | (refine goesT_three (goesT_eq (by simp -implicitDefEqProofs (disch := (first | omega | (simp; done) | fail)) [if_pos, if_neg, wrap_i64, tmod_pos, tdiv_pos, Int.toNat_add, ha1, hlen, h8]; rfl) ?_) (goesT_eq (by simp -implicitDefEqProofs (disch := (first | omega | (simp; done) | fail)) [if_pos, if_neg, wrap_i64, tmod_pos, tdiv_pos, Int.toNat_add, ha1, hlen, h8]; rfl) ?_) (goesT_eq (by simp -implicitDefEqProofs (disch := (first | omega | (simp; done) | fail)) [if_pos, if_neg, wrap_i64, tmod_pos, tdiv_pos, Int.toNat_add, ha1, hlen, h8]; rfl) ?_)))
          all_goals
            refine goesT_done ?_
            (try simp only [vq, if_true, reduceIte, Nat.reduceEqDiff, reduceCtorEq])
            repeat (first | ((first | refine zd ?_ | refine zx ?_ | refine zk ?_ | refine zl ?_ | refine zr ?_); refine zq ?_) | refine zs ?_ | refine zh (by simp -implicitDefEqProofs (disch := (first | omega | (simp; done) | fail)) [if_pos, if_neg, wrap_i64, tmod_pos, tdiv_pos, Int.toNat_add, ha1]; rfl) ?_ | refine zb ?_ | refine zo ?_ | refine zt ?_ | refine zf ?_)
            first | refine body_all (.inr rfl) (by simp -implicitDefEqProofs; rfl) (by simp -implicitDefEqProofs; rfl) (by first | (simp; done) | (simp; omega) | omega) ?_ | refine body_all (.inl rfl) (by simp -implicitDefEqProofs; rfl) (by simp -implicitDefEqProofs; rfl) (by first | (simp; done) | (simp; omega) | omega) ?_
            exact ⟨by rw [hv], by simpa using hfin 10 (by rw [if_neg (by simp; omega)])⟩
      · cases b with
        | true =>
          repeat (first | ((first | refine zd ?_ | refine zx ?_ | refine zk ?_ | refine zl ?_ | refine zr ?_); refine zq ?_) | refine zs ?_ | refine zg ?_ | refine zb ?_ | refine zo ?_ | refine zt ?_ | refine zf ?_)
          refine awp_draw (.q 0 (.q 1 (.q 2 (.q 3 (.q 4 (.q 5 (.q 8 (.q 9 (.q 10 (.two 6 11 (.q 7 (.a 11 (.q 12 (.q 13 (.q 14 (.done)))))) (.a 6 (.q 7 (.q 12 (.q 13 (.q 14 (.done)))))))))))))))) (by kernel_rfl) (by kernel_rfl) (tree_start (goesT_eq (by simp -implicitDefEqProofs (disch := (first | omega | (simp; done) | fail)) [if_pos, if_neg, wrap_i64, tmod_pos, tdiv_pos, Int.toNat_add, ha1, hlen, h8]; rfl) ?_))
          all_goals repeat' (first | (refine goesT_two (goesT_eq (by simp -implicitDefEqProofs (disch := (first | omega | (simp; done) | fail)) [if_pos, if_neg, wrap_i64, tmod_pos, tdiv_pos, Int.toNat_add, ha1, hlen, h8]; rfl) ?_) (goesT_eq (by simp -implicitDefEqProofs (disch := (first | omega | (simp; done) | fail)) [if_pos, if_neg, wrap_i64, tmod_pos, tdiv_pos, Int.toNat_add, ha1, hlen, h8]; rfl) ?_)) | (refine goesT_three (goesT_eq (by simp -implicitDefEqProofs (disch := (first | omega | (simp; done) | fail)) [if_pos, if_neg, wrap_i64, tmod_pos, tdiv_pos, Int.toNat_add, ha1, hlen, h8]; rfl) ?_) (goesT_eq (by simp -implicitDefEqProofs (disch := (first | omega | (simp; done) | fail)) [if_pos, if_neg, wrap_i64, tmod_pos, tdiv_pos, Int.toNat_add, ha1, hlen, h8]; rfl) ?_) (goesT_eq (by simp -implicitDefEqProofs (disch := (first | omega | (simp; done) | fail)) [if_pos, if_neg, wrap_i64, tmod_pos, tdiv_pos, Int.toNat_add, ha1, hlen, h8]; rfl) ?_)))
          all_goals
            refine goesT_done ?_
            (try simp only [vq, if_true, reduceIte, Nat.reduceEqDiff, reduceCtorEq])
            repeat (first | ((first | refine zd ?_ | refine zx ?_ | refine zk ?_ | refine zl ?_ | refine zr ?_); refine zq ?_) | refine zs ?_ | refine zh (by simp -implicitDefEqProofs (disch := (first | omega | (simp; done) | fail)) [if_pos, if_neg, wrap_i64, tmod_pos, tdiv_pos, Int.toNat_add, ha1]; rfl) ?_ | refine zb ?_ | refine zo ?_ | refine zt ?_ | refine zf ?_)
            first | refine body_all (.inr rfl) (by simp -implicitDefEqProofs; rfl) (by simp -implicitDefEqProofs; rfl) (by first | (simp; done) | (simp; omega) | omega) ?_ | refine body_all (.inl rfl) (by simp -implicitDefEqProofs; rfl) (by simp -implicitDefEqProofs; rfl) (by first | (simp; done) | (simp; omega) | omega) ?_
            exact ⟨by rw [hv], hfin 11 (by simp)⟩
        | false =>
          repeat (first | ((first | refine zd ?_ | refine zx ?_ | refine zk ?_ | refine zl ?_ | refine zr ?_); refine zq ?_) | refine zs ?_ | refine zg ?_ | refine zb ?_ | refine zo ?_ | refine zt ?_ | refine zf ?_)
          refine awp_draw (.q 0 (.q 1 (.q 2 (.q 3 (.q 4 (.q 5 (.q 8 (.q 9 (.q 10 (.two 6 11 (.q 7 (.a 11 (.q 12 (.q 13 (.q 14 (.done)))))) (.a 6 (.q 7 (.q 12 (.q 13 (.q 14 (.done)))))))))))))))) (by kernel_rfl) (by kernel_rfl) (tree_start (goesT_eq (by simp -implicitDefEqProofs (disch := (first | omega | (simp; done) | fail)) [if_pos, if_neg, wrap_i64, tmod_pos, tdiv_pos, Int.toNat_add, ha1, hlen, h8]; rfl) ?_))
          all_goals repeat' (first | (refine goesT_two (goesT_eq (by simp -implicitDefEqProofs (disch := (first | omega | (simp; done) | fail)) [if_pos, if_neg, wrap_i64, tmod_pos, tdiv_pos, Int.toNat_add, ha1, hlen, h8]; rfl) ?_) (goesT_eq (by simp -implicitDefEqProofs (disch := (first | omega | (simp; done) | fail)) [if_pos, if_neg, wrap_i64, tmod_pos, tdiv_pos, Int.toNat_add, ha1, hlen, h8]; rfl) ?_)) | (refine goesT_three (goesT_eq (by simp -implicitDefEqProofs (disch := (first | omega | (simp; done) | fail)) [if_pos, if_neg, wrap_i64, tmod_pos, tdiv_pos, Int.toNat_add, ha1, hlen, h8]; rfl) ?_) (goesT_eq (by simp -implicitDefEqProofs (disch := (first | omega | (simp; done) | fail)) [if_pos, if_neg, wrap_i64, tmod_pos, tdiv_pos, Int.toNat_add, ha1, hlen, h8]; rfl) ?_) (goesT_eq (by simp -implicitDefEqProofs (disch := (first | omega | (simp; done) | fail)) [if_pos, if_neg, wrap_i64, tmod_pos, tdiv_pos, Int.toNat_add, ha1, hlen, h8]; rfl) ?_)))
          all_goals
            refine goesT_done ?_
            (try simp only [vq, if_true, reduceIte, Nat.reduceEqDiff, reduceCtorEq])
            repeat (first | ((first | refine zd ?_ | refine zx ?_ | refine zk ?_ | refine zl ?_ | refine zr ?_); refine zq ?_) | refine zs ?_ | refine zh (by simp -implicitDefEqProofs (disch := (first | omega | (simp; done) | fail)) [if_pos, if_neg, wrap_i64, tmod_pos, tdiv_pos, Int.toNat_add, ha1]; rfl) ?_ | refine zb ?_ | refine zo ?_ | refine zt ?_ | refine zf ?_)
            first | refine body_all (.inr rfl) (by simp -implicitDefEqProofs; rfl) (by simp -implicitDefEqProofs; rfl) (by first | (simp; done) | (simp; omega) | omega) ?_ | refine body_all (.inl rfl) (by simp -implicitDefEqProofs; rfl) (by simp -implicitDefEqProofs; rfl) (by first | (simp; done) | (simp; omega) | omega) ?_
            exact ⟨by rw [hv], hfin 11 (by rw [if_pos (by omega)])⟩
    · repeat (first | ((first | refine zd ?_ | refine zx ?_ | refine zk ?_ | refine zl ?_ | refine zr ?_); refine zq ?_) | refine zs ?_ | refine zg ?_ | refine zb ?_ | refine zo ?_ | refine zt ?_ | refine zf ?_)
      refine awp_loop (fun n st => ∃ j : Nat, n = l.length - j ∧ j ≤ l.length ∧ st.le ⟨Tryz.f64.ntmps, [(0, .ptr rid 0), (6, .bool ((l.take j).any fun d => decide ((d.toNat : Int) < 128))), (7, .int .i64 ((a : Int) + (j : Int)))], h.set rid (.cells [.str B, .int .i64 (a : Nat), .int .i64 11])⟩) l.length ?_ ?_
      rotate_left
      rintro n st ⟨j, rfl, hj, hle⟩
      · refine awp_le hle ?_
        clear hle
        by_cases h9 : j = l.length
        · subst h9
          have q1 : ¬ (a : Int) + (l.length : Int) < (B.length : Int) := by omega
          repeat (first | ((first | refine zd ?_ | refine zx ?_ | refine zk ?_ | refine zl ?_ | refine zr ?_); refine zq ?_) | refine zs ?_ | refine zh (by simp -implicitDefEqProofs (disch := (first | omega | (simp; done) | fail)) [if_pos, if_neg, wrap_i64, tmod_pos, tdiv_pos, Int.toNat_add, ha1, q1]; rfl) ?_ | refine zb ?_ | refine zo ?_ | refine zt ?_ | refine zf ?_)
          exact st_keep' (by simp [List.take_length]) (by simp [List.take_length])
        have hlt : j < l.length := by omega
        have hdB : ∀ h : a + j < B.length, B[a + j] = l[j] := fun h => by
          have : B[a + j]? = (B.drop a)[j]? := by rw [List.getElem?_drop]
          rw [hl0, List.getElem?_eq_getElem hlt, List.getElem?_eq_getElem h] at this
          injection this
        have hat := any_take l j hlt (fun d => decide ((d.toNat : Int) < 128))
        have q1 : (a : Int) + (j : Int) < (B.length : Int) := by omega
        generalize l[j] = d at *
        clear hlt
        generalize (l.take j).any (fun d => decide ((d.toNat : Int) < 128)) = b at *
        cases b with
        | true =>
          repeat (first | ((first | refine zd ?_ | refine zx ?_ | refine zk ?_ | refine zl ?_ | refine zr ?_); refine zq ?_) | refine zs ?_ | refine zh (by simp -implicitDefEqProofs (disch := (first | omega | (simp; done) | fail)) [if_pos, if_neg, wrap_i64, tmod_pos, tdiv_pos, Int.toNat_add, ha1, q1, hdB]; rfl) ?_ | refine zb ?_ | refine zo ?_ | refine zt ?_ | refine zf ?_)
          exact ⟨l.length - (j + 1), by omega, j + 1, rfl, by omega, st_keep' (by simp [hat, Int.add_assoc]) (by simp [hat, Int.add_assoc])⟩
        | false =>
          repeat (first | ((first | refine zd ?_ | refine zx ?_ | refine zk ?_ | refine zl ?_ | refine zr ?_); refine zq ?_) | refine zs ?_ | refine zh (by simp -implicitDefEqProofs (disch := (first | omega | (simp; done) | fail)) [if_pos, if_neg, wrap_i64, tmod_pos, tdiv_pos, Int.toNat_add, ha1, q1, hdB]; rfl) ?_ | refine zb ?_ | refine zo ?_ | refine zt ?_ | refine zf ?_)
          exact ⟨l.length - (j + 1), by omega, j + 1, rfl, by omega, st_keep' (by simp [hat, Int.add_assoc]) (by simp [hat, Int.add_assoc])⟩
      · exact ⟨0, rfl, by omega, st_keep' (by simp []) (by simp [])⟩
  · repeat (first | ((first | refine zd ?_ | refine zx ?_ | refine zk ?_ | refine zl ?_ | refine zr ?_); refine zq ?_) | refine zs ?_ | refine zg ?_ | refine zb ?_ | refine zo ?_ | refine zt ?_ | refine zf ?_)
    refine awp_loop (fun n st => ∃ j nv w : Nat, n = 8 - j ∧ j ≤ 8 ∧ j ≤ l.length ∧ nv < w ∧ w = 128 ^ j ∧ numG (8 - j) j nv (l.drop j) = numB l ∧ st.le ⟨Tryz.f64.ntmps, [(0, .ptr rid 0), (3, .int .i64 (nv : Nat)), (4, .int .i64 (w : Nat)), (5, .int .i64 ((a : Int) + (j : Int)))], h⟩) 8 ?_ ?_
    rotate_left
    rintro n st ⟨j, nv, w, rfl, hj, hjl, hnv, hw, hg, hle⟩
    · refine awp_le hle ?_
      clear hle
      by_cases h8 : j = 8
      · subst h8
        have hne : (numB l).2.2 ≠ 0 := by rw [← hg]; simp [numG]
        by_cases q0 : (a : Int) + 8 < (B.length : Int)
        · repeat (first | ((first | refine zd ?_ | refine zx ?_ | refine zk ?_ | refine zl ?_ | refine zr ?_); refine zq ?_) | refine zs ?_ | refine zh (by simp -implicitDefEqProofs (disch := (first | omega | (simp; done) | fail)) [if_pos, if_neg, wrap_i64, tmod_pos, tdiv_pos, Int.toNat_add, hr0, q0]; rfl) ?_ | refine zb ?_ | refine zo ?_ | refine zt ?_ | refine zf ?_)
          exact ⟨hne, st_keep' (by simp []) (by simp [])⟩
        · repeat (first | ((first | refine zd ?_ | refine zx ?_ | refine zk ?_ | refine zl ?_ | refine zr ?_); refine zq ?_) | refine zs ?_ | refine zh (by simp -implicitDefEqProofs (disch := (first | omega | (simp; done) | fail)) [if_pos, if_neg, wrap_i64, tmod_pos, tdiv_pos, Int.toNat_add, hr0, q0]; rfl) ?_ | refine zb ?_ | refine zo ?_ | refine zt ?_ | refine zf ?_)
          exact ⟨hne, st_keep' (by simp []) (by simp [])⟩
      by_cases h9 : j = l.length
      · have hne : (numB l).2.2 ≠ 0 := by
          rw [← hg, h9, List.drop_length]
          obtain ⟨f, hf⟩ : ∃ f, 8 - l.length = f + 1 := ⟨7 - l.length, by omega⟩
          rw [hf]; simp [numG]
        have q1 : ¬ (a : Int) + (j : Int) < (B.length : Int) := by omega
        repeat (first | ((first | refine zd ?_ | refine zx ?_ | refine zk ?_ | refine zl ?_ | refine zr ?_); refine zq ?_) | refine zs ?_ | refine zh (by simp -implicitDefEqProofs (disch := (first | omega | (simp; done) | fail)) [if_pos, if_neg, wrap_i64, tmod_pos, tdiv_pos, Int.toNat_add, hr0, q1]; rfl) ?_ | refine zb ?_ | refine zo ?_ | refine zt ?_ | refine zf ?_)
        exact ⟨hne, st_keep' (by simp []) (by simp [])⟩
      have hlt : j < l.length := by omega
      have hdr : l.drop j = l[j] :: l.drop (j + 1) := List.drop_eq_getElem_cons hlt
      have hdB : ∀ h : a + j < B.length, B[a + j] = l[j] := fun h => by
        have : B[a + j]? = (B.drop a)[j]? := by rw [List.getElem?_drop]
        rw [hl0, List.getElem?_eq_getElem hlt, List.getElem?_eq_getElem h] at this
        injection this
      rw [hdr] at hg
      have q1 : (a : Int) + (j : Int) < (B.length : Int) := by omega
      have q2 : (a : Int) + (j : Int) < (a : Int) + 8 := by omega
      generalize l[j] = d at *
      have hdb := d.toNat_lt
      have hw8 : w ≤ 562949953421312 := by rw [hw]; exact Nat.pow_le_pow_right (by decide) (show j ≤ 7 by omega)
      have hp1 : d.toNat % 128 * w ≤ 127 * w := Nat.mul_le_mul_right _ (by omega)
      have hp2 : (d.toNat : Int) % 128 * (w : Int) = ((d.toNat % 128 * w : Nat) : Int) := by simp
      have hp3 : 0 ≤ (d.toNat : Int) % 128 * (w : Int) ∧ (d.toNat : Int) % 128 * (w : Int) ≤ 71494644084506624 := by omega
      obtain ⟨m, hm⟩ : ∃ m : Nat, m = nv + d.toNat % 128 * w := ⟨_, rfl⟩
      have hsum : (nv : Int) + (d.toNat : Int) % 128 * (w : Int) = (m : Int) := by omega
      rw [show 8 - j = (7 - j) + 1 by omega, numG, ← hw, ← hm] at hg
      clear hlt
      repeat (first | ((first | refine zd ?_ | refine zx ?_ | refine zk ?_ | refine zl ?_ | refine zr ?_); refine zq ?_) | refine zs ?_ | refine zh (by simp -implicitDefEqProofs (disch := (first | omega | (simp; done) | fail)) [if_pos, if_neg, wrap_i64, tmod_pos, tdiv_pos, Int.toNat_add, hr0, q1, q2, hdB]; rfl) ?_ | refine zb ?_ | refine zo ?_ | refine zt ?_ | refine zf ?_)
      refine awp_cond rfl (fun hd => ?_) (fun hd => ?_)
      · simp at hd
        rw [if_neg (by omega)] at hg
        have c := rany_ok (m : Int)
        have htd : (B.take (a + j + 1)).drop a = l.take (j + 1) := by rw [List.drop_take, hl0]; congr 1; omega
        by_cases hs : szB m = j + 1
        · rw [if_pos hs] at hg
          obtain ⟨r, hl1, hk, hm1⟩ := numB_inv hg.symm
          have heq : (nbI (m : Int) == (B.take (a + j + 1)).drop a) = true := by
            rw [htd, nbI_nat hm1, hl1, hk, List.take_left]; simp
          have e1 : rdNum l = .ok ((m : Int), l.drop (j + 1)) := by unfold rdNum; rw [← hg]; rfl
          have ri1 := ri0.set (a := a + j + 1) (e := 0) (st' := .ok (l.drop (j + 1))) ⟨by omega, rfl, by rw [← hl0, List.drop_drop]; congr 1⟩
          clear htd hg hm hp1 hp2 hp3
          refine awp_seq ?_
          refine awp_seq ?_
          refine awp_draw (.q 0 (.q 2 (.q 3 (.q 4 (.q 6 (.q 7 (.q 8 (.q 10 (.q 11 (.three 1 5 9 (.two 5 9 (.a 9 (.q 12 (.q 13 (.done)))) (.a 5 (.q 12 (.q 13 (.done))))) (.two 1 9 (.a 9 (.q 12 (.q 13 (.done)))) (.q 12 (.a 1 (.q 13 (.done))))) (.two 1 5 (.a 5 (.q 12 (.q 13 (.done)))) (.q 12 (.a 1 (.q 13 (.done))))))))))))))) (by kernel_rfl) (by kernel_rfl) (tree_start (goesT_eq (by simp -implicitDefEqProofs (disch := (first | omega | (simp; done) | fail)) [if_pos, if_neg, wrap_i64, tmod_pos, tdiv_pos, Int.toNat_add, hr0, hsum]; rfl) ?_))
          repeat' (first | (refine goesT_two (goesT_eq (by simp -implicitDefEqProofs (disch := (first | omega | (simp; done) | fail)) [if_pos, if_neg, wrap_i64, tmod_pos, tdiv_pos, Int.toNat_add, hr0, q1, heq]; rfl) ?_) (goesT_eq (by simp -implicitDefEqProofs (disch := (first | omega | (simp; done) | fail)) [if_pos, if_neg, wrap_i64, tmod_pos, tdiv_pos, Int.toNat_add, hr0, q1, heq]; rfl) ?_)) | (refine goesT_three (goesT_eq (by simp -implicitDefEqProofs (disch := (first | omega | (simp; done) | fail)) [if_pos, if_neg, wrap_i64, tmod_pos, tdiv_pos, Int.toNat_add, hr0, q1, heq]; rfl) ?_) (goesT_eq (by simp -implicitDefEqProofs (disch := (first | omega | (simp; done) | fail)) [if_pos, if_neg, wrap_i64, tmod_pos, tdiv_pos, Int.toNat_add, hr0, q1, heq]; rfl) ?_) (goesT_eq (by simp -implicitDefEqProofs (disch := (first | omega | (simp; done) | fail)) [if_pos, if_neg, wrap_i64, tmod_pos, tdiv_pos, Int.toNat_add, hr0, q1, heq]; rfl) ?_)) | (refine zP (callable_of Tryz.func83) _ (c _) ?_; rintro _ _ ⟨rfl, rfl⟩; refine goesT_eq (by simp -implicitDefEqProofs (disch := (first | omega | (simp; done) | fail)) [if_pos, if_neg, wrap_i64, tmod_pos, tdiv_pos, Int.toNat_add, hr0, q1, heq]; rfl) ?_))
          all_goals
            refine goesT_done ?_
            (try simp only [vq, if_true, reduceIte, Nat.reduceEqDiff, reduceCtorEq])
            repeat (first | ((first | refine zd ?_ | refine zx ?_ | refine zk ?_ | refine zl ?_ | refine zr ?_); refine zq ?_) | refine zs ?_ | refine zh (by simp -implicitDefEqProofs (disch := (first | omega | (simp; done) | fail)) [if_pos, if_neg, wrap_i64, tmod_pos, tdiv_pos, Int.toNat_add, heq, hr0]; rfl) ?_ | refine zb ?_ | refine zo ?_ | refine zt ?_ | refine zf ?_)
            first | refine body_all (.inr rfl) (by simp -implicitDefEqProofs; rfl) (by simp -implicitDefEqProofs; rfl) (by first | (simp; done) | (simp; omega) | omega) ?_ | refine body_all (.inl rfl) (by simp -implicitDefEqProofs; rfl) (by simp -implicitDefEqProofs; rfl) (by first | (simp; done) | (simp; omega) | omega) ?_
            refine ⟨by simp [runV, e1], ?_⟩
            simpa [runT, e1, rdr, Int.add_assoc] using ri1
        · rw [if_neg hs] at hg
          have hne : (numB l).2.2 ≠ 0 := by rw [← hg]; simp
          have heq : (nbI (m : Int) == (B.take (a + j + 1)).drop a) = false := by
            rw [htd]
            simp only [beq_eq_false_iff_ne, ne_eq]
            intro e
            apply hs
            have hlen : (nbI (m : Int)).length = j + 1 := by rw [e, List.length_take]; omega
            have hc : canB (m : Int) = true := by
              cases hc : canB (m : Int) with
              | true => rfl
              | false => rw [nbI, hc] at hlen; simp at hlen
            obtain ⟨m', hm', hm1⟩ := canB_nat hc
            have : m = m' := by omega
            subst this
            rw [nbI_nat hm1] at hlen
            unfold szB
            rw [if_pos hm1, hlen]
          clear htd hg hm hp1 hp2 hp3
          refine awp_seq ?_
          refine awp_seq ?_
          refine awp_draw (.q 0 (.q 2 (.q 3 (.q 4 (.q 6 (.q 7 (.q 8 (.q 10 (.q 11 (.three 1 5 9 (.two 5 9 (.a 9 (.q 12 (.q 13 (.done)))) (.a 5 (.q 12 (.q 13 (.done))))) (.two 1 9 (.a 9 (.q 12 (.q 13 (.done)))) (.q 12 (.a 1 (.q 13 (.done))))) (.two 1 5 (.a 5 (.q 12 (.q 13 (.done)))) (.q 12 (.a 1 (.q 13 (.done))))))))))))))) (by kernel_rfl) (by kernel_rfl) (tree_start (goesT_eq (by simp -implicitDefEqProofs (disch := (first | omega | (simp; done) | fail)) [if_pos, if_neg, wrap_i64, tmod_pos, tdiv_pos, Int.toNat_add, hr0, hsum]; rfl) ?_))
          repeat' (first | (refine goesT_two (goesT_eq (by simp -implicitDefEqProofs (disch := (first | omega | (simp; done) | fail)) [if_pos, if_neg, wrap_i64, tmod_pos, tdiv_pos, Int.toNat_add, hr0, q1, heq]; rfl) ?_) (goesT_eq (by simp -implicitDefEqProofs (disch := (first | omega | (simp; done) | fail)) [if_pos, if_neg, wrap_i64, tmod_pos, tdiv_pos, Int.toNat_add, hr0, q1, heq]; rfl) ?_)) | (refine goesT_three (goesT_eq (by simp -implicitDefEqProofs (disch := (first | omega | (simp; done) | fail)) [if_pos, if_neg, wrap_i64, tmod_pos, tdiv_pos, Int.toNat_add, hr0, q1, heq]; rfl) ?_) (goesT_eq (by simp -implicitDefEqProofs (disch := (first | omega | (simp; done) | fail)) [if_pos, if_neg, wrap_i64, tmod_pos, tdiv_pos, Int.toNat_add, hr0, q1, heq]; rfl) ?_) (goesT_eq (by simp -implicitDefEqProofs (disch := (first | omega | (simp; done) | fail)) [if_pos, if_neg, wrap_i64, tmod_pos, tdiv_pos, Int.toNat_add, hr0, q1, heq]; rfl) ?_)) | (refine zP (callable_of Tryz.func83) _ (c _) ?_; rintro _ _ ⟨rfl, rfl⟩; refine goesT_eq (by simp -implicitDefEqProofs (disch := (first | omega | (simp; done) | fail)) [if_pos, if_neg, wrap_i64, tmod_pos, tdiv_pos, Int.toNat_add, hr0, q1, heq]; rfl) ?_))
          all_goals
            refine goesT_done ?_
            (try simp only [vq, if_true, reduceIte, Nat.reduceEqDiff, reduceCtorEq])
            repeat (first | ((first | refine zd ?_ | refine zx ?_ | refine zk ?_ | refine zl ?_ | refine zr ?_); refine zq ?_) | refine zs ?_ | refine zh (by simp -implicitDefEqProofs (disch := (first | omega | (simp; done) | fail)) [if_pos, if_neg, wrap_i64, tmod_pos, tdiv_pos, Int.toNat_add, heq, hr0]; rfl) ?_ | refine zb ?_ | refine zo ?_ | refine zt ?_ | refine zf ?_)
            exact ⟨hne, st_keep' (by simp []) (by simp [])⟩
      · simp at hd
        rw [if_pos (by omega)] at hg
        repeat (first | ((first | refine zd ?_ | refine zx ?_ | refine zk ?_ | refine zl ?_ | refine zr ?_); refine zq ?_) | refine zs ?_ | refine zg ?_ | refine zb ?_ | refine zo ?_ | refine zt ?_ | refine zf ?_)
        exact ⟨8 - (j + 1), by omega, j + 1, m, w * 128, rfl, by omega, by omega, by omega, by rw [hw, Nat.pow_succ], by rw [show 8 - (j + 1) = 7 - j by omega]; exact hg, st_keep' (by simp [hsum, Int.add_assoc]) (by simp [hsum, Int.add_assoc])⟩
    · exact ⟨0, 0, 1, rfl, by omega, by omega, by omega, by simp, by simp [numB], st_keep' (by simp []) (by simp [])⟩
end Go.Proofs.YtdncoobpdllpkaaGreat.D

/- Bytes as messages, the document's reader: texts, sizes, and what is made of numbers. -/
set_option linter.unusedVariables false
set_option linter.unusedSimpArgs false
set_option maxRecDepth 20000
namespace Go.Proofs.YtdncoobpdllpkaaGreat.D
open Go Go.Proofs.YtdncoobpdllpkaaGreat.V Go.Proofs.YtdncoobpdllpkaaGreat.N
def VS {α : Type} (f : Spec α) (st : St) (x : α) (st' : St) : Prop := Val f st x ∧ runT f st = st'
theorem VS.nop {st : St} : VS nopS st () st := ⟨fun l p h1 h2 => rfl, runT_nop st⟩
theorem VS.seq {α β : Type} {f : Spec α} {g : Spec β} {st st' : St} {x : α} {y : β} (a : VS f st x st') (b : Val g st' y) : VS (seqS f g) st (x, y) (runT g st') := by
  obtain ⟨a1, rfl⟩ := a
  refine ⟨fun l p h1 h2 => ?_, by rw [runT_seq]⟩
  subst h1
  unfold seqS at h2
  cases hf : f l with
  | error e => rw [hf] at h2; cases h2
  | ok q =>
    rw [hf] at h2
    simp only at h2
    cases hg : g q.2 with
    | error e => rw [hg] at h2; cases h2
    | ok r =>
      rw [hg] at h2
      injection h2 with h2
      rw [← h2, a1 l q rfl hf, b q.2 r (by rw [run_ok hf]) hg]
theorem VS.seq2 {α β : Type} {f : Spec α} {g : Spec β} {st st' st'' : St} {x : α} {y : β} (a : VS f st x st') (b : VS g st' y st'') : VS (seqS f g) st (x, y) st'' := by
  obtain ⟨b1, rfl⟩ := b
  exact a.seq b1
theorem VS.as {α β : Type} {f : Spec α} {st st' : St} {x : α} (a : VS f st x st') (g : α → β) : VS (mapS g f) st (g x) st' := by
  obtain ⟨a1, rfl⟩ := a
  refine ⟨fun l p h1 h2 => ?_, by rw [runT_map]⟩
  unfold mapS at h2
  cases hf : f l with
  | error e => rw [hf] at h2; cases h2
  | ok q =>
    rw [hf] at h2
    injection h2 with h2
    rw [← h2, a1 l q h1 hf]
theorem VS.next {α : Type} {f : Spec α} {st st' : St} {i : Nat} {xs : List α} {x : α} (h0 : f [] = .error 10) (a : VS (rdN f i) st xs st') (b : Val f st' x) : VS (rdN f (i + 1)) st (xs ++ [x]) (runT f st') := by
  unfold rdN
  rw [gate_eq h0]
  exact (a.seq b).as (fun p => p.1 ++ [p.2])
theorem VS.next2 {α : Type} {f : Spec α} {st st' st'' : St} {i : Nat} {xs : List α} {x : α} (h0 : f [] = .error 10) (a : VS (rdN f i) st xs st') (b : VS f st' x st'') : VS (rdN f (i + 1)) st (xs ++ [x]) st'' := by
  obtain ⟨b1, rfl⟩ := b
  exact a.next h0 b1
theorem VS.none {α : Type} (f : Spec α) (st : St) : VS (rdN f 0) st [] st := ⟨fun l p h1 h2 => by injection h2 with h2; rw [← h2], by cases st <;> rfl⟩
theorem VS.done {α : Type} {f : Spec α} {st st' : St} {i n : Nat} {xs : List α} (hn : Val rdSize st n) (hi : i ≤ n) (a : VS (rdN f i) (runT rdSize st) xs st') (he : i = n ∨ ∃ e, st' = .error e) : VS (rdList f) st xs st' := by
  obtain ⟨a1, rfl⟩ := a
  cases st with
  | error e =>
    exact ⟨fun l p h1 h2 => (by cases h1), rfl⟩
  | ok l =>
    cases hs : rdSize l with
    | error e =>
      have hl : rdList f l = .error e := by simp [rdList, hs]
      refine ⟨fun l' p h1 h2 => ?_, ?_⟩
      · injection h1 with h1; subst h1; rw [hl] at h2; cases h2
      · rw [run_err hl, run_err hs]; rfl
    | ok p =>
      have hl : rdList f l = rdN f p.1 p.2 := by simp [rdList, hs]
      have hp := hn l p rfl hs
      subst hp
      have e1 : runT (rdList f) (.ok l) = runT (rdN f p.1) (.ok p.2) := by simp only [runT, hl]
      rw [run_ok hs] at a1 he ⊢
      rcases he with rfl | ⟨e, he⟩
      · refine ⟨fun l' q h1 h2 => ?_, e1⟩
        injection h1 with h1; subst h1
        rw [hl] at h2
        exact a1 p.2 q rfl h2
      · have e2 := runT_N_err f he p.1 hi
        refine ⟨fun l' q h1 h2 => ?_, by rw [e1, e2, he]⟩
        injection h1 with h1; subst h1
        rw [hl] at h2
        simp only [runT, h2] at e2
        cases e2
theorem val_run {α : Type} (f : Spec α) (d : α) (st : St) : Val f st (runV f d st) := fun l p h1 h2 => by subst h1; simp only [runV, h2]
theorem RI.len {h : AHeap} {rid : Nat} {B : List UInt8} {st : St} {h1 : AHeap} (r : RI h rid B st h1) : h1.length = h.length := by
  obtain ⟨a, e, rfl, hl, hs⟩ := r
  simp
theorem RI.getl {h : AHeap} {rid : Nat} {B : List UInt8} {st : St} {h1 : AHeap} (r : RI h rid B st h1) : ∃ a e, (∀ l, (h1 ++ l)[rid]? = some (rdr B a e)) ∧ ISt B st a e := by
  obtain ⟨a, e, rfl, hl, hs⟩ := r
  exact ⟨a, e, fun l => by rw [List.getElem?_append_left (by simpa using hl)]; simp [hl], hs⟩
theorem RI.setl {h : AHeap} {rid : Nat} {B : List UInt8} {st : St} {h1 : AHeap} (r : RI h rid B st h1) (l : AHeap) (x : AObj) : (h1 ++ l).set rid x = h1.set rid x ++ l ∧ (∀ l', (h1.set rid x ++ l')[rid]? = some x) ∧ ∀ y, (h1.set rid y ++ l).set rid x = h1.set rid x ++ l := by
  obtain ⟨a, e, rfl, hl, hs⟩ := r
  exact ⟨List.set_append_left _ _ (by simpa using hl), fun l' => by rw [List.getElem?_append_left (by simpa using hl)]; simp [hl], fun y => by rw [List.set_append_left _ _ (by simpa using hl), List.set_set]⟩
theorem itext_ok (h : AHeap) (rid : Nat) (B : List UInt8) (st : St) (hB : B.length ≤ 100000) (ri : RI h rid B st h) : ACalls Tryz.prog 84 [.ptr rid 0, .int .i64 4096] h fun r h' => r = .str (runV rdText [] st) ∧ RI h rid B (runT rdText st) h' := by
  obtain ⟨a, e, hr, ha, hs⟩ := ri.get
  unfold rdr at hr
  have bad : ∀ (h1 : AHeap) (e' : Nat), runT rdNum st = .error e' → RI h rid B (runT rdNum st) h1 → ∃ a1 e1 : Nat, h1[rid]? = some (.cells [.str B, .int .i64 (a1 : Nat), .int .i64 (e1 : Nat)]) ∧ ((e1 : Int) != 0) = true := by
    intro h1 e' he ri1
    obtain ⟨a1, e1, hr1, ha1, hs1⟩ := ri1.get
    rw [he] at hs1
    obtain ⟨q1, rfl⟩ := hs1
    exact ⟨a1, e1, hr1, by simp; omega⟩
  refine acalls_of_awp Tryz.func84 rfl (by simp only [List.length_cons, List.length_nil]; decide) ?_
  simp only [params_cons, params_nil]
  repeat (first | ((first | refine zd ?_ | refine zx ?_ | refine zk ?_ | refine zl ?_ | refine zr ?_); refine zq ?_) | refine zs ?_ | refine zh (by simp -implicitDefEqProofs (disch := (first | omega | (simp; done) | fail)) [if_pos, if_neg, wrap_i64, tmod_pos, tdiv_pos, Int.toNat_add, hr]; rfl) ?_ | refine zb ?_ | refine zo ?_ | refine zt ?_ | refine zf ?_)
  refine goes_callS (callable_of Tryz.func64) (by simp -implicitDefEqProofs (disch := (first | omega | (simp; done) | fail)) [if_pos, if_neg, wrap_i64, tmod_pos, tdiv_pos, Int.toNat_add] <;> first | rfl | omega) _ (inum_ok _ rid B st hB ri) ?_
  rintro _ h1 ⟨rfl, ri1⟩
  have hkl := ri1.len
  by_cases hen : ∃ e', runT rdNum st = .error e' ∧ runT rdText st = .error e' ∧ runV rdText [] st = []
  · obtain ⟨e', q1, q2, q3⟩ := hen
    obtain ⟨a1, e1, hr1, hne⟩ := bad h1 e' q1 ri1
    rw [q1] at ri1
    rw [q2, q3]
    refine ze ?_
    repeat (first | ((first | refine zd ?_ | refine zx ?_ | refine zk ?_ | refine zl ?_ | refine zr ?_); refine zq ?_) | refine zs ?_ | refine zh (by simp -implicitDefEqProofs (disch := (first | omega | (simp; done) | fail)) [if_pos, if_neg, wrap_i64, tmod_pos, tdiv_pos, Int.toNat_add, hr1, hne]; rfl) ?_ | refine zb ?_ | refine zo ?_ | refine zt ?_ | refine zf ?_)
    first | refine body_all (.inr rfl) (by simp -implicitDefEqProofs; rfl) (by simp -implicitDefEqProofs; rfl) (by first | (simp; done) | (simp; omega) | omega) ?_ | refine body_all (.inl rfl) (by simp -implicitDefEqProofs; rfl) (by simp -implicitDefEqProofs; rfl) (by first | (simp; done) | (simp; omega) | omega) ?_
    exact ⟨rfl, ri1⟩
  obtain ⟨l, rfl⟩ : ∃ l, st = .ok l := by
    cases st with
    | ok l => exact ⟨l, rfl⟩
    | error e' => exact absurd ⟨e', rfl, rfl, rfl⟩ hen
  obtain ⟨rfl, hl⟩ := hs
  have he : (numB l).2.2 = 0 := by
    refine Classical.byContradiction fun he => hen ⟨(numB l).2.2, run_err (by unfold rdNum; rw [if_neg he]), run_err (by unfold rdText; rw [if_neg he]), ?_⟩
    have : rdText l = .error (numB l).2.2 := by unfold rdText; rw [if_neg he]
    simp only [runV, this]
  clear hen bad
  have e0 : rdText l = if 4096 < (numB l).1 then .error 13 else if (l.drop (numB l).2.1).length < (numB l).1 then .error 10 else .ok ((l.drop (numB l).2.1).take (numB l).1, (l.drop (numB l).2.1).drop (numB l).1) := by unfold rdText; rw [if_pos he]
  have en : rdNum l = .ok (((numB l).1 : Nat), l.drop (numB l).2.1) := by unfold rdNum; rw [if_pos he]
  rw [run_ok en] at ri1
  have ev : runV rdNum 0 (.ok l) = ((numB l).1 : Nat) := by simp only [runV, en]
  rw [ev]
  simp only at ri1
  generalize (numB l).1 = n at *
  generalize l.drop (numB l).2.1 = r at *
  obtain ⟨a1, e1, hr1, ha1, hs1⟩ := ri1.get
  obtain ⟨rfl, hr2⟩ := hs1
  have hr1 : h1[rid]? = some (.cells [.str B, .int .i64 (a1 : Nat), .int .i64 0]) := hr1
  have hset : ∀ x : AObj, (h1.set rid x)[rid]? = some x := fun x => by have := (ri1.setl [] x).2.1 []; simpa using this
  have hrl : r.length = B.length - a1 := by rw [← hr2]; simp
  by_cases h2 : (4096 : Int) < (n : Int)
  · rw [if_pos (by omega)] at e0
    have ri2 := ri1.set (a := a) (e := 13) (st' := .error 13) ⟨ha, by decide, rfl⟩
    refine ze ?_
    repeat (first | ((first | refine zd ?_ | refine zx ?_ | refine zk ?_ | refine zl ?_ | refine zr ?_); refine zq ?_) | refine zs ?_ | refine zh (by simp -implicitDefEqProofs (disch := (first | omega | (simp; done) | fail)) [if_pos, if_neg, wrap_i64, tmod_pos, tdiv_pos, Int.toNat_add, hr1, h2, hset]; rfl) ?_ | refine zb ?_ | refine zo ?_ | refine zt ?_ | refine zf ?_)
    first | refine body_all (.inr rfl) (by simp -implicitDefEqProofs; rfl) (by simp -implicitDefEqProofs; rfl) (by first | (simp; done) | (simp; omega) | omega) ?_ | refine body_all (.inl rfl) (by simp -implicitDefEqProofs; rfl) (by simp -implicitDefEqProofs; rfl) (by first | (simp; done) | (simp; omega) | omega) ?_
    exact ⟨by simp only [runV, e0], by rw [run_err e0]; simpa [rdr] using ri2⟩
  by_cases h3 : (B.length : Int) - (a1 : Int) < (n : Int)
  · rw [if_neg (by omega), if_pos (by omega)] at e0
    have ri2 := ri1.set (a := a) (e := 10) (st' := .error 10) ⟨ha, by decide, rfl⟩
    refine ze ?_
    repeat (first | ((first | refine zd ?_ | refine zx ?_ | refine zk ?_ | refine zl ?_ | refine zr ?_); refine zq ?_) | refine zs ?_ | refine zh (by simp -implicitDefEqProofs (disch := (first | omega | (simp; done) | fail)) [if_pos, if_neg, wrap_i64, tmod_pos, tdiv_pos, Int.toNat_add, hr1, h2]; rfl) ?_ | refine zb ?_ | refine zo ?_ | refine zt ?_ | refine zf ?_)
    refine awp_draw (.q 0 (.q 1 (.q 2 (.q 3 (.q 6 (.q 7 (.q 8 (.two 4 9 (.q 5 (.a 9 (.q 10 (.q 11 (.done))))) (.a 4 (.q 5 (.q 10 (.q 11 (.done))))))))))))) (by kernel_rfl) (by kernel_rfl) (tree_start (goesT_eq (by simp -implicitDefEqProofs (disch := (first | omega | (simp; done) | fail)) [if_pos, if_neg, wrap_i64, tmod_pos, tdiv_pos, Int.toNat_add, hr1, h3]; rfl) ?_))
    all_goals repeat' (first | (refine goesT_two (goesT_eq (by simp -implicitDefEqProofs (disch := (first | omega | (simp; done) | fail)) [if_pos, if_neg, wrap_i64, tmod_pos, tdiv_pos, Int.toNat_add, hr1, h3]; rfl) ?_) (goesT_eq (by simp -implicitDefEqProofs (disch := (first | omega | (simp; done) | fail)) [if_pos, if_neg, wrap_i64, tmod_pos, tdiv_pos, Int.toNat_add, hr1, h3]; rfl) ?_)) | (refine goesT_three (goesT_eq (by simp -implicitDefEqProofs (disch := (first | omega | (simp; done) | fail)) [if_pos, if_neg, wrap_i64, tmod_pos, tdiv_pos, Int.toNat_add, hr1, h3]; rfl) ?_) (goesT_eq (by simp -implicitDefEqProofs (disch := (first | omega | (simp; done) | fail)) [if_pos, if_neg, wrap_i64, tmod_pos, tdiv_pos, Int.toNat_add, hr1, h3]; rfl) ?_) (goesT_eq (by simp -implicitDefEqProofs (disch := (first | omega | (simp; done) | fail)) [if_pos, if_neg, wrap_i64, tmod_pos, tdiv_pos, Int.toNat_add, hr1, h3]; rfl) ?_)))
    all_goals
      refine goesT_done ?_
      (try simp only [vq, if_true, reduceIte, Nat.reduceEqDiff, reduceCtorEq])
      repeat (first | ((first | refine zd ?_ | refine zx ?_ | refine zk ?_ | refine zl ?_ | refine zr ?_); refine zq ?_) | refine zs ?_ | refine zh (by simp -implicitDefEqProofs (disch := (first | omega | (simp; done) | fail)) [if_pos, if_neg, wrap_i64, tmod_pos, tdiv_pos, Int.toNat_add, hr1, hset]; rfl) ?_ | refine zb ?_ | refine zo ?_ | refine zt ?_ | refine zf ?_)
      first | refine body_all (.inr rfl) (by simp -implicitDefEqProofs; rfl) (by simp -implicitDefEqProofs; rfl) (by first | (simp; done) | (simp; omega) | omega) ?_ | refine body_all (.inl rfl) (by simp -implicitDefEqProofs; rfl) (by simp -implicitDefEqProofs; rfl) (by first | (simp; done) | (simp; omega) | omega) ?_
      exact ⟨by simp only [runV, e0], by rw [run_err e0]; simpa [rdr] using ri2⟩
  · rw [if_neg (by omega), if_neg (by omega)] at e0
    have ri2 := ri1.set (a := a1 + n) (e := 0) (st' := .ok (r.drop n)) ⟨by omega, rfl, by rw [← hr2, List.drop_drop]⟩
    have hlt : (a1 : Int) + (n : Int) ≤ (B.length : Int) := by omega
    have htd : (B.take (a1 + n)).drop a1 = r.take n := by rw [List.drop_take, hr2]; congr 1; omega
    refine ze ?_
    repeat (first | ((first | refine zd ?_ | refine zx ?_ | refine zk ?_ | refine zl ?_ | refine zr ?_); refine zq ?_) | refine zs ?_ | refine zh (by simp -implicitDefEqProofs (disch := (first | omega | (simp; done) | fail)) [if_pos, if_neg, wrap_i64, tmod_pos, tdiv_pos, Int.toNat_add, hr1, h2]; rfl) ?_ | refine zb ?_ | refine zo ?_ | refine zt ?_ | refine zf ?_)
    refine awp_draw (.q 0 (.q 1 (.q 2 (.q 3 (.q 6 (.q 7 (.q 8 (.two 4 9 (.q 5 (.a 9 (.q 10 (.q 11 (.done))))) (.a 4 (.q 5 (.q 10 (.q 11 (.done))))))))))))) (by kernel_rfl) (by kernel_rfl) (tree_start (goesT_eq (by simp -implicitDefEqProofs (disch := (first | omega | (simp; done) | fail)) [if_pos, if_neg, wrap_i64, tmod_pos, tdiv_pos, Int.toNat_add, hr1, h3]; rfl) ?_))
    all_goals repeat' (first | (refine goesT_two (goesT_eq (by simp -implicitDefEqProofs (disch := (first | omega | (simp; done) | fail)) [if_pos, if_neg, wrap_i64, tmod_pos, tdiv_pos, Int.toNat_add, hr1, h3]; rfl) ?_) (goesT_eq (by simp -implicitDefEqProofs (disch := (first | omega | (simp; done) | fail)) [if_pos, if_neg, wrap_i64, tmod_pos, tdiv_pos, Int.toNat_add, hr1, h3]; rfl) ?_)) | (refine goesT_three (goesT_eq (by simp -implicitDefEqProofs (disch := (first | omega | (simp; done) | fail)) [if_pos, if_neg, wrap_i64, tmod_pos, tdiv_pos, Int.toNat_add, hr1, h3]; rfl) ?_) (goesT_eq (by simp -implicitDefEqProofs (disch := (first | omega | (simp; done) | fail)) [if_pos, if_neg, wrap_i64, tmod_pos, tdiv_pos, Int.toNat_add, hr1, h3]; rfl) ?_) (goesT_eq (by simp -implicitDefEqProofs (disch := (first | omega | (simp; done) | fail)) [if_pos, if_neg, wrap_i64, tmod_pos, tdiv_pos, Int.toNat_add, hr1, h3]; rfl) ?_)))
    all_goals
      refine goesT_done ?_
      (try simp only [vq, if_true, reduceIte, Nat.reduceEqDiff, reduceCtorEq])
      repeat (first | ((first | refine zd ?_ | refine zx ?_ | refine zk ?_ | refine zl ?_ | refine zr ?_); refine zq ?_) | refine zs ?_ | refine zg ?_ | refine zb ?_ | refine zo ?_ | refine zt ?_ | refine zf ?_)
      refine awp_draw (.q 0 (.q 1 (.q 2 (.q 4 (.q 5 (.q 6 (.q 8 (.q 9 (.q 10 (.q 12 (.three 3 7 11 (.two 7 11 (.a 11 (.q 13 (.q 14 (.q 15 (.done))))) (.q 13 (.a 7 (.q 14 (.q 15 (.done)))))) (.two 3 11 (.a 11 (.q 13 (.q 14 (.q 15 (.done))))) (.q 13 (.a 3 (.q 14 (.q 15 (.done)))))) (.q 13 (.two 3 7 (.a 7 (.q 14 (.q 15 (.done)))) (.a 3 (.q 14 (.q 15 (.done))))))))))))))))) (by kernel_rfl) (by kernel_rfl) (tree_start (goesT_eq (by simp -implicitDefEqProofs (disch := (first | omega | (simp; done) | fail)) [if_pos, if_neg, wrap_i64, tmod_pos, tdiv_pos, Int.toNat_add, hr1, hlt]; rfl) ?_))
      all_goals repeat' (first | (refine goesT_two (goesT_eq (by simp -implicitDefEqProofs (disch := (first | omega | (simp; done) | fail)) [if_pos, if_neg, wrap_i64, tmod_pos, tdiv_pos, Int.toNat_add, hr1, hlt]; rfl) ?_) (goesT_eq (by simp -implicitDefEqProofs (disch := (first | omega | (simp; done) | fail)) [if_pos, if_neg, wrap_i64, tmod_pos, tdiv_pos, Int.toNat_add, hr1, hlt]; rfl) ?_)) | (refine goesT_three (goesT_eq (by simp -implicitDefEqProofs (disch := (first | omega | (simp; done) | fail)) [if_pos, if_neg, wrap_i64, tmod_pos, tdiv_pos, Int.toNat_add, hr1, hlt]; rfl) ?_) (goesT_eq (by simp -implicitDefEqProofs (disch := (first | omega | (simp; done) | fail)) [if_pos, if_neg, wrap_i64, tmod_pos, tdiv_pos, Int.toNat_add, hr1, hlt]; rfl) ?_) (goesT_eq (by simp -implicitDefEqProofs (disch := (first | omega | (simp; done) | fail)) [if_pos, if_neg, wrap_i64, tmod_pos, tdiv_pos, Int.toNat_add, hr1, hlt]; rfl) ?_)))
      all_goals
        refine goesT_done ?_
        (try simp only [vq, if_true, reduceIte, Nat.reduceEqDiff, reduceCtorEq])
        repeat (first | ((first | refine zd ?_ | refine zx ?_ | refine zk ?_ | refine zl ?_ | refine zr ?_); refine zq ?_) | refine zs ?_ | refine zh (by simp -implicitDefEqProofs (disch := (first | omega | (simp; done) | fail)) [if_pos, if_neg, wrap_i64, tmod_pos, tdiv_pos, Int.toNat_add, hr1, hset]; rfl) ?_ | refine zb ?_ | refine zo ?_ | refine zt ?_ | refine zf ?_)
        first | refine body_all (.inr rfl) (by simp -implicitDefEqProofs; rfl) (by simp -implicitDefEqProofs; rfl) (by first | (simp; done) | (simp; omega) | omega) ?_ | refine body_all (.inl rfl) (by simp -implicitDefEqProofs; rfl) (by simp -implicitDefEqProofs; rfl) (by first | (simp; done) | (simp; omega) | omega) ?_
        exact ⟨by simp only [runV, e0, htd], by rw [run_ok e0]; simpa [rdr] using ri2⟩
theorem inumi_ok : IRd 42 rdNum iv := by
  rintro h rid B st hB ri
  refine acalls_of_awp Tryz.func42 rfl (by simp only [List.length_cons, List.length_nil]; decide) ?_
  simp only [params_cons, params_nil]
  refine awp_seq ?_
  refine zg ?_
  refine goes_done ?_
  (try simp only [vq, if_true, reduceIte, Nat.reduceEqDiff, reduceCtorEq])
  refine awp_hard (id := h.length) (by simp -implicitDefEqProofs; rfl) ?_
  simp -implicitDefEqProofs only [Slots.melt, AV.melt, Nat.add_left_cancel_iff, Nat.add_eq_left, Nat.left_eq_add, Nat.reduceEqDiff, reduceIte, Nat.succ_ne_self, Nat.one_ne_zero, Nat.zero_ne_one, List.set_append_right, List.set_append_left, Nat.sub_self, Nat.le_refl, Nat.add_sub_cancel_left, Nat.le_add_right, List.set_cons_zero, List.set_cons_succ]
  repeat (first | ((first | refine zd ?_ | refine zx ?_ | refine zk ?_ | refine zl ?_ | refine zr ?_); refine zq ?_) | refine zs ?_ | refine zg ?_ | refine zb ?_ | refine zo ?_ | refine zt ?_ | refine zf ?_)
  refine goes_callS (callable_of Tryz.func64) (by simp -implicitDefEqProofs (disch := (first | omega | (simp; done) | fail)) [if_pos, if_neg, wrap_i64, tmod_pos, tdiv_pos, Int.toNat_add] <;> first | rfl | omega) _ (inum_ok _ rid B st hB (ri.now _)) ?_
  rintro _ _ ⟨rfl, ri'⟩
  obtain ⟨h', rfl, _, ri2⟩ := ri.step ri'
  clear ri ri'
  have ri := ri2
  clear ri2
  refine ze ?_
  repeat (first | ((first | refine zd ?_ | refine zx ?_ | refine zk ?_ | refine zl ?_ | refine zr ?_); refine zq ?_) | refine zs ?_ | refine zg ?_ | refine zb ?_ | refine zo ?_ | refine zt ?_ | refine zf ?_)
  first | refine body_ri ri (.inr rfl) (by simp -implicitDefEqProofs []; rfl) (by simp -implicitDefEqProofs []; rfl) (by simp) ?_ | refine body_ri ri (.inl rfl) (by simp -implicitDefEqProofs []; rfl) (by simp -implicitDefEqProofs []; rfl) (by simp) ?_
  exact ⟨⟨_, rfl, val_run _ _ _⟩, ri⟩
theorem itexti_ok : IRd 66 rdText .str := by
  rintro h rid B st hB ri
  refine acalls_of_awp Tryz.func66 rfl (by simp only [List.length_cons, List.length_nil]; decide) ?_
  simp only [params_cons, params_nil]
  refine awp_seq ?_
  refine zg ?_
  refine goes_done ?_
  (try simp only [vq, if_true, reduceIte, Nat.reduceEqDiff, reduceCtorEq])
  refine awp_hard (id := h.length) (by simp -implicitDefEqProofs; rfl) ?_
  simp -implicitDefEqProofs only [Slots.melt, AV.melt, Nat.add_left_cancel_iff, Nat.add_eq_left, Nat.left_eq_add, Nat.reduceEqDiff, reduceIte, Nat.succ_ne_self, Nat.one_ne_zero, Nat.zero_ne_one, List.set_append_right, List.set_append_left, Nat.sub_self, Nat.le_refl, Nat.add_sub_cancel_left, Nat.le_add_right, List.set_cons_zero, List.set_cons_succ]
  repeat (first | ((first | refine zd ?_ | refine zx ?_ | refine zk ?_ | refine zl ?_ | refine zr ?_); refine zq ?_) | refine zs ?_ | refine zg ?_ | refine zb ?_ | refine zo ?_ | refine zt ?_ | refine zf ?_)
  refine goes_callS (callable_of Tryz.func84) (by simp -implicitDefEqProofs (disch := (first | omega | (simp; done) | fail)) [if_pos, if_neg, wrap_i64, tmod_pos, tdiv_pos, Int.toNat_add] <;> first | rfl | omega) _ (itext_ok _ rid B st hB (ri.now _)) ?_
  rintro _ _ ⟨rfl, ri'⟩
  obtain ⟨h', rfl, _, ri2⟩ := ri.step ri'
  clear ri ri'
  have ri := ri2
  clear ri2
  refine ze ?_
  repeat (first | ((first | refine zd ?_ | refine zx ?_ | refine zk ?_ | refine zl ?_ | refine zr ?_); refine zq ?_) | refine zs ?_ | refine zg ?_ | refine zb ?_ | refine zo ?_ | refine zt ?_ | refine zf ?_)
  first | refine body_ri ri (.inr rfl) (by simp -implicitDefEqProofs []; rfl) (by simp -implicitDefEqProofs []; rfl) (by simp) ?_ | refine body_ri ri (.inl rfl) (by simp -implicitDefEqProofs []; rfl) (by simp -implicitDefEqProofs []; rfl) (by simp) ?_
  exact ⟨⟨_, rfl, val_run _ _ _⟩, ri⟩
theorem isz_le {α : Type} {f : Spec α} {st : St} {n i : Nat} {l : List UInt8} (hn : Val rdSize st n) (h : runT (rdN f i) (runT rdSize st) = .ok l) : n ≤ 1024 := by
  cases st with
  | error e => simp [runT] at h
  | ok l0 =>
    cases hs : rdSize l0 with
    | error e => rw [run_err hs] at h; simp [runT] at h
    | ok p =>
      rw [hn l0 p rfl hs]
      have := hs
      unfold rdSize at this
      split at this
      · split at this
        · cases this
        · injection this with this; rw [← this]; simp; omega
      · cases this
theorem getN {h : AHeap} {N : Nat} (hN : h.length = N) (l : AHeap) (k : Nat) : (h ++ l)[N + k]? = l[k]? := by
  subst hN
  rw [List.getElem?_append_right (by omega), Nat.add_sub_cancel_left]
theorem setN {h : AHeap} {N : Nat} (hN : h.length = N) (l : AHeap) (k : Nat) (x : AObj) : (h ++ l).set (N + k) x = h ++ l.set k x := by
  subst hN
  rw [List.set_append_right _ _ (by omega), Nat.add_sub_cancel_left]
theorem getN0 {h : AHeap} {N : Nat} (hN : h.length = N) (l : AHeap) : (h ++ l)[N]? = l[0]? := getN hN l 0
theorem setN0 {h : AHeap} {N : Nat} (hN : h.length = N) (l : AHeap) (x : AObj) : (h ++ l).set N x = h ++ l.set 0 x := setN hN l 0 x
theorem IRd.at_ {α : Type} {f : FuncId} {s : Spec α} {av : α → AV} (c : IRd f s av) {h h1 l : AHeap} {rid : Nat} {B : List UInt8} {st : St} (hB : B.length ≤ 100000) (ri : RI h rid B st h1) : ACalls Tryz.prog f [.agg [.ptr rid 0]] (h1 ++ l) fun r h' => (∃ x, r = av x ∧ Val s st x) ∧ ∃ h2, h' = h2 ++ l ∧ h2.length = h1.length ∧ RI h rid B (runT s st) h2 :=
  (c _ rid B st hB (ri.now l)).mono fun r h' ⟨q1, q2⟩ => ⟨q1, ri.step q2⟩
end Go.Proofs.YtdncoobpdllpkaaGreat.D

/- Bytes as messages, the document's reader: sizes, instances. -/
set_option linter.unusedVariables false
set_option linter.unusedSimpArgs false
set_option maxRecDepth 20000
namespace Go.Proofs.YtdncoobpdllpkaaGreat.D
open Go Go.Proofs.YtdncoobpdllpkaaGreat.V Go.Proofs.YtdncoobpdllpkaaGreat.N
def nv (n : Nat) : AV := .int .i64 (n : Nat)
theorem ilist_ok : IRd 65 rdSize nv := by
  rintro h rid B st hB ri
  obtain ⟨a, e, hg, ha, hs⟩ := ri.getl
  unfold rdr at hg
  refine acalls_of_awp Tryz.func65 rfl (by simp only [List.length_cons, List.length_nil]; decide) ?_
  simp only [params_cons, params_nil]
  refine awp_seq ?_
  refine zg ?_
  refine goes_done ?_
  (try simp only [vq, if_true, reduceIte, Nat.reduceEqDiff, reduceCtorEq])
  refine awp_hard (id := h.length) (by simp -implicitDefEqProofs; rfl) ?_
  simp -implicitDefEqProofs only [Slots.melt, AV.melt, Nat.add_left_cancel_iff, Nat.add_eq_left, Nat.left_eq_add, Nat.reduceEqDiff, reduceIte, Nat.succ_ne_self, Nat.one_ne_zero, Nat.zero_ne_one, List.set_append_right, List.set_append_left, Nat.sub_self, Nat.le_refl, Nat.add_sub_cancel_left, Nat.le_add_right, List.set_cons_zero, List.set_cons_succ]
  repeat (first | ((first | refine zd ?_ | refine zx ?_ | refine zk ?_ | refine zl ?_ | refine zr ?_); refine zq ?_) | refine zs ?_ | refine zh (by simp -implicitDefEqProofs (disch := (first | omega | (simp; done) | fail)) [if_pos, if_neg, wrap_i64, tmod_pos, tdiv_pos, Int.toNat_add, hg]; rfl) ?_ | refine zb ?_ | refine zo ?_ | refine zt ?_ | refine zf ?_)
  refine goes_callS (callable_of Tryz.func64) (by simp -implicitDefEqProofs (disch := (first | omega | (simp; done) | fail)) [if_pos, if_neg, wrap_i64, tmod_pos, tdiv_pos, Int.toNat_add] <;> first | rfl | omega) _ (inum_ok _ rid B _ hB (ri.now _)) ?_
  rintro _ _ ⟨rfl, ri'⟩
  obtain ⟨h', rfl, _, ri2⟩ := ri.step ri'
  clear ri ri'
  have ri := ri2
  clear ri2
  refine ze ?_
  by_cases hen : ∃ e', runT rdNum st = .error e' ∧ runT rdSize st = .error e' ∧ runV rdNum 0 st = 0 ∧ Val rdSize st 0
  · obtain ⟨e', q1, q2, q3, q4⟩ := hen
    obtain ⟨a1, e1, hg1, ha1, hs1⟩ := ri.getl
    unfold rdr at hg1
    rw [q1] at hs1 ri
    obtain ⟨q5, rfl⟩ := hs1
    have hne : ((e1 : Int) == 0) = false := by simp; omega
    rw [q2, q3]
    repeat (first | ((first | refine zd ?_ | refine zx ?_ | refine zk ?_ | refine zl ?_ | refine zr ?_); refine zq ?_) | refine zs ?_ | refine zh (by simp -implicitDefEqProofs (disch := (first | omega | (simp; done) | fail)) [if_pos, if_neg, wrap_i64, tmod_pos, tdiv_pos, Int.toNat_add, hg1, hne]; rfl) ?_ | refine zb ?_ | refine zo ?_ | refine zt ?_ | refine zf ?_)
    first | refine body_ri ri (.inr rfl) (by simp -implicitDefEqProofs []; rfl) (by simp -implicitDefEqProofs []; rfl) (by simp) ?_ | refine body_ri ri (.inl rfl) (by simp -implicitDefEqProofs []; rfl) (by simp -implicitDefEqProofs []; rfl) (by simp) ?_
    exact ⟨⟨0, rfl, q4⟩, ri⟩
  obtain ⟨l, rfl⟩ : ∃ l, st = .ok l := by
    cases st with
    | ok l => exact ⟨l, rfl⟩
    | error e' => exact absurd ⟨e', rfl, rfl, rfl, fun l p h1 h2 => by cases h1⟩ hen
  have he : (numB l).2.2 = 0 := by
    refine Classical.byContradiction fun he => hen ?_
    have e1 : rdSize l = .error (numB l).2.2 := by unfold rdSize; rw [if_neg he]
    have e2 : rdNum l = .error (numB l).2.2 := by unfold rdNum; rw [if_neg he]
    exact ⟨(numB l).2.2, run_err e2, run_err e1, by simp only [runV, e2], fun l' p h1 h2 => by injection h1 with h1; subst h1; rw [e1] at h2; cases h2⟩
  clear hen
  have e0 : rdSize l = if 1024 < (numB l).1 then .error 13 else .ok ((numB l).1, l.drop (numB l).2.1) := by unfold rdSize; rw [if_pos he]
  have en : rdNum l = .ok (((numB l).1 : Nat), l.drop (numB l).2.1) := by unfold rdNum; rw [if_pos he]
  have ev : runV rdNum 0 (.ok l) = ((numB l).1 : Nat) := by simp only [runV, en]
  rw [run_ok en] at ri
  rw [ev]
  simp only at ri
  generalize (numB l).1 = n at *
  generalize l.drop (numB l).2.1 = r at *
  obtain ⟨a1, e1, hg1, ha1, hs1⟩ := ri.getl
  obtain ⟨rfl, hr2⟩ := hs1
  have hg1 : ∀ l : AHeap, (h' ++ l)[rid]? = some (.cells [.str B, .int .i64 (a1 : Nat), .int .i64 0]) := hg1
  by_cases h2 : (1024 : Int) < (n : Int)
  · rw [if_pos (by omega)] at e0
    have ri2 := ri.set (a := a) (e := 13) (st' := .error 13) ⟨ha, by decide, rfl⟩
    have hs1 := fun l x => (ri.setl l x).1
    have hs2 := fun x => (ri.setl [] x).2.1
    have hs3 := fun l x => (ri.setl l x).2.2
    rw [run_err e0]
    have hv : Val rdSize (.ok l) 0 := fun l' p h1 h2 => by injection h1 with h1; subst h1; rw [e0] at h2; cases h2
    clear ri
    have ri : RI h rid B (.error 13) (h'.set rid (.cells [.str B, .int .i64 (a : Nat), .int .i64 13])) := ri2
    clear ri2
    repeat (first | ((first | refine zd ?_ | refine zx ?_ | refine zk ?_ | refine zl ?_ | refine zr ?_); refine zq ?_) | refine zs ?_ | refine zh (by simp -implicitDefEqProofs (disch := (first | omega | (simp; done) | fail)) [if_pos, if_neg, wrap_i64, tmod_pos, tdiv_pos, Int.toNat_add, hg1, h2, hs1, hs2, hs3]; rfl) ?_ | refine zb ?_ | refine zo ?_ | refine zt ?_ | refine zf ?_)
    first | refine body_ri ri (.inr rfl) (by simp -implicitDefEqProofs []; rfl) (by simp -implicitDefEqProofs []; rfl) (by simp) ?_ | refine body_ri ri (.inl rfl) (by simp -implicitDefEqProofs []; rfl) (by simp -implicitDefEqProofs []; rfl) (by simp) ?_
    exact ⟨⟨0, rfl, hv⟩, ri⟩
  · rw [if_neg (by omega)] at e0
    rw [run_ok e0]
    repeat (first | ((first | refine zd ?_ | refine zx ?_ | refine zk ?_ | refine zl ?_ | refine zr ?_); refine zq ?_) | refine zs ?_ | refine zh (by simp -implicitDefEqProofs (disch := (first | omega | (simp; done) | fail)) [if_pos, if_neg, wrap_i64, tmod_pos, tdiv_pos, Int.toNat_add, hg1, h2]; rfl) ?_ | refine zb ?_ | refine zo ?_ | refine zt ?_ | refine zf ?_)
    first | refine body_ri ri (.inr rfl) (by simp -implicitDefEqProofs []; rfl) (by simp -implicitDefEqProofs []; rfl) (by simp) ?_ | refine body_ri ri (.inl rfl) (by simp -implicitDefEqProofs []; rfl) (by simp -implicitDefEqProofs []; rfl) (by simp) ?_
    exact ⟨⟨n, rfl, fun l' p h1 h2 => by injection h1 with h1; subst h1; rw [e0] at h2; injection h2 with h2; rw [← h2]⟩, ri⟩
theorem iid_ok : IRd 44 rdId Iid.av := by
  rintro h rid B st hB ri
  refine acalls_of_awp Tryz.func44 rfl (by simp only [List.length_cons, List.length_nil]; decide) ?_
  simp only [params_cons, params_nil]
  obtain ⟨N, hN⟩ : ∃ N, h.length = N := ⟨_, rfl⟩
  refine awp_seq ?_
  refine zg ?_
  refine goes_done ?_
  (try simp only [vq, if_true, reduceIte, Nat.reduceEqDiff, reduceCtorEq])
  refine awp_hard (id := h.length) (by simp -implicitDefEqProofs; rfl) ?_
  simp -implicitDefEqProofs only [Slots.melt, AV.melt, Nat.add_left_cancel_iff, Nat.add_eq_left, Nat.left_eq_add, Nat.reduceEqDiff, reduceIte, Nat.succ_ne_self, Nat.one_ne_zero, Nat.zero_ne_one, List.set_append_right, List.set_append_left, Nat.sub_self, Nat.le_refl, Nat.add_sub_cancel_left, Nat.le_add_right, List.set_cons_zero, List.set_cons_succ]
  rw [hN]
  repeat (first | ((first | refine zd ?_ | refine zx ?_ | refine zk ?_ | refine zl ?_ | refine zr ?_); refine zq ?_) | refine zs ?_ | refine zh (by simp -implicitDefEqProofs (disch := (first | omega | (simp; done) | fail)) [if_pos, if_neg, wrap_i64, tmod_pos, tdiv_pos, Int.toNat_add, hN, getN hN, setN hN, getN0 hN, setN0 hN]; rfl) ?_ | refine zb ?_ | refine zo ?_ | refine zt ?_ | refine zf ?_)
  refine goes_callS (callable_of Tryz.func42) (by simp -implicitDefEqProofs (disch := (first | omega | (simp; done) | fail)) [if_pos, if_neg, wrap_i64, tmod_pos, tdiv_pos, Int.toNat_add] <;> first | rfl | omega) _ (inumi_ok.at_ hB ri) ?_
  rintro _ _ ⟨⟨x1, rfl, vx1⟩, h', rfl, hl', ri2⟩
  clear ri
  have ri := ri2
  replace hN := hl'.trans hN
  clear ri2 hl'
  refine goes_eq (by simp -implicitDefEqProofs (disch := (first | omega | (simp; done) | fail)) [if_pos, if_neg, wrap_i64, tmod_pos, tdiv_pos, Int.toNat_add, hN, getN hN, setN hN, getN0 hN, setN0 hN]; rfl) ?_
  repeat (first | ((first | refine zd ?_ | refine zx ?_ | refine zk ?_ | refine zl ?_ | refine zr ?_); refine zq ?_) | refine zs ?_ | refine zh (by simp -implicitDefEqProofs (disch := (first | omega | (simp; done) | fail)) [if_pos, if_neg, wrap_i64, tmod_pos, tdiv_pos, Int.toNat_add, hN, getN hN, setN hN, getN0 hN, setN0 hN]; rfl) ?_ | refine zb ?_ | refine zo ?_ | refine zt ?_ | refine zf ?_)
  refine goes_callS (callable_of Tryz.func42) (by simp -implicitDefEqProofs (disch := (first | omega | (simp; done) | fail)) [if_pos, if_neg, wrap_i64, tmod_pos, tdiv_pos, Int.toNat_add] <;> first | rfl | omega) _ (inumi_ok.at_ hB ri) ?_
  rintro _ _ ⟨⟨x2, rfl, vx2⟩, h', rfl, hl', ri2⟩
  clear ri
  have ri := ri2
  replace hN := hl'.trans hN
  clear ri2 hl'
  refine goes_eq (by simp -implicitDefEqProofs (disch := (first | omega | (simp; done) | fail)) [if_pos, if_neg, wrap_i64, tmod_pos, tdiv_pos, Int.toNat_add, hN, getN hN, setN hN, getN0 hN, setN0 hN]; rfl) ?_
  repeat (first | ((first | refine zd ?_ | refine zx ?_ | refine zk ?_ | refine zl ?_ | refine zr ?_); refine zq ?_) | refine zs ?_ | refine zh (by simp -implicitDefEqProofs (disch := (first | omega | (simp; done) | fail)) [if_pos, if_neg, wrap_i64, tmod_pos, tdiv_pos, Int.toNat_add, hN, getN hN, setN hN, getN0 hN, setN0 hN]; rfl) ?_ | refine zb ?_ | refine zo ?_ | refine zt ?_ | refine zf ?_)
  refine goes_callS (callable_of Tryz.func42) (by simp -implicitDefEqProofs (disch := (first | omega | (simp; done) | fail)) [if_pos, if_neg, wrap_i64, tmod_pos, tdiv_pos, Int.toNat_add] <;> first | rfl | omega) _ (inumi_ok.at_ hB ri) ?_
  rintro _ _ ⟨⟨x3, rfl, vx3⟩, h', rfl, hl', ri2⟩
  clear ri
  have ri := ri2
  replace hN := hl'.trans hN
  clear ri2 hl'
  refine goes_eq (by simp -implicitDefEqProofs (disch := (first | omega | (simp; done) | fail)) [if_pos, if_neg, wrap_i64, tmod_pos, tdiv_pos, Int.toNat_add, hN, getN hN, setN hN, getN0 hN, setN0 hN]; rfl) ?_
  repeat (first | ((first | refine zd ?_ | refine zx ?_ | refine zk ?_ | refine zl ?_ | refine zr ?_); refine zq ?_) | refine zs ?_ | refine zh (by simp -implicitDefEqProofs (disch := (first | omega | (simp; done) | fail)) [if_pos, if_neg, wrap_i64, tmod_pos, tdiv_pos, Int.toNat_add, hN, getN hN, setN hN, getN0 hN, setN0 hN]; rfl) ?_ | refine zb ?_ | refine zo ?_ | refine zt ?_ | refine zf ?_)
  have vs : VS rdId st ⟨x1, x2, x3⟩ _ := (((VS.nop.seq vx1).seq vx2).seq vx3).as _
  first | refine body_ri ri (.inr rfl) (by simp -implicitDefEqProofs [hN, getN hN, setN hN, getN0 hN, setN0 hN]; rfl) (by simp -implicitDefEqProofs [hN, getN hN, setN hN, getN0 hN, setN0 hN]; rfl) (by simp) ?_ | refine body_ri ri (.inl rfl) (by simp -implicitDefEqProofs [hN, getN hN, setN hN, getN0 hN, setN0 hN]; rfl) (by simp -implicitDefEqProofs [hN, getN hN, setN hN, getN0 hN, setN0 hN]; rfl) (by simp) ?_
  exact ⟨⟨_, rfl, vs.1⟩, by rw [vs.2]; exact ri⟩
def Bal.av' (x : Bal) : AV := .agg x.c
theorem ibal_ok : IRd 67 rdBal Bal.av' := by
  rintro h rid B st hB ri
  refine acalls_of_awp Tryz.func67 rfl (by simp only [List.length_cons, List.length_nil]; decide) ?_
  simp only [params_cons, params_nil]
  obtain ⟨N, hN⟩ : ∃ N, h.length = N := ⟨_, rfl⟩
  refine awp_seq ?_
  refine zg ?_
  refine goes_done ?_
  (try simp only [vq, if_true, reduceIte, Nat.reduceEqDiff, reduceCtorEq])
  refine awp_hard (id := h.length) (by simp -implicitDefEqProofs; rfl) ?_
  simp -implicitDefEqProofs only [Slots.melt, AV.melt, Nat.add_left_cancel_iff, Nat.add_eq_left, Nat.left_eq_add, Nat.reduceEqDiff, reduceIte, Nat.succ_ne_self, Nat.one_ne_zero, Nat.zero_ne_one, List.set_append_right, List.set_append_left, Nat.sub_self, Nat.le_refl, Nat.add_sub_cancel_left, Nat.le_add_right, List.set_cons_zero, List.set_cons_succ]
  rw [hN]
  repeat (first | ((first | refine zd ?_ | refine zx ?_ | refine zk ?_ | refine zl ?_ | refine zr ?_); refine zq ?_) | refine zs ?_ | refine zh (by simp -implicitDefEqProofs (disch := (first | omega | (simp; done) | fail)) [if_pos, if_neg, wrap_i64, tmod_pos, tdiv_pos, Int.toNat_add, hN, getN hN, setN hN, getN0 hN, setN0 hN]; rfl) ?_ | refine zb ?_ | refine zo ?_ | refine zt ?_ | refine zf ?_)
  refine goes_callS (callable_of Tryz.func42) (by simp -implicitDefEqProofs (disch := (first | omega | (simp; done) | fail)) [if_pos, if_neg, wrap_i64, tmod_pos, tdiv_pos, Int.toNat_add] <;> first | rfl | omega) _ (inumi_ok.at_ hB ri) ?_
  rintro _ _ ⟨⟨x1, rfl, vx1⟩, h', rfl, hl', ri2⟩
  clear ri
  have ri := ri2
  replace hN := hl'.trans hN
  clear ri2 hl'
  refine goes_eq (by simp -implicitDefEqProofs (disch := (first | omega | (simp; done) | fail)) [if_pos, if_neg, wrap_i64, tmod_pos, tdiv_pos, Int.toNat_add, hN, getN hN, setN hN, getN0 hN, setN0 hN]; rfl) ?_
  repeat (first | ((first | refine zd ?_ | refine zx ?_ | refine zk ?_ | refine zl ?_ | refine zr ?_); refine zq ?_) | refine zs ?_ | refine zh (by simp -implicitDefEqProofs (disch := (first | omega | (simp; done) | fail)) [if_pos, if_neg, wrap_i64, tmod_pos, tdiv_pos, Int.toNat_add, hN, getN hN, setN hN, getN0 hN, setN0 hN]; rfl) ?_ | refine zb ?_ | refine zo ?_ | refine zt ?_ | refine zf ?_)
  refine goes_callS (callable_of Tryz.func42) (by simp -implicitDefEqProofs (disch := (first | omega | (simp; done) | fail)) [if_pos, if_neg, wrap_i64, tmod_pos, tdiv_pos, Int.toNat_add] <;> first | rfl | omega) _ (inumi_ok.at_ hB ri) ?_
  rintro _ _ ⟨⟨x2, rfl, vx2⟩, h', rfl, hl', ri2⟩
  clear ri
  have ri := ri2
  replace hN := hl'.trans hN
  clear ri2 hl'
  refine goes_eq (by simp -implicitDefEqProofs (disch := (first | omega | (simp; done) | fail)) [if_pos, if_neg, wrap_i64, tmod_pos, tdiv_pos, Int.toNat_add, hN, getN hN, setN hN, getN0 hN, setN0 hN]; rfl) ?_
  repeat (first | ((first | refine zd ?_ | refine zx ?_ | refine zk ?_ | refine zl ?_ | refine zr ?_); refine zq ?_) | refine zs ?_ | refine zh (by simp -implicitDefEqProofs (disch := (first | omega | (simp; done) | fail)) [if_pos, if_neg, wrap_i64, tmod_pos, tdiv_pos, Int.toNat_add, hN, getN hN, setN hN, getN0 hN, setN0 hN]; rfl) ?_ | refine zb ?_ | refine zo ?_ | refine zt ?_ | refine zf ?_)
  have vs : VS rdBal st ⟨x1, x2⟩ _ := ((VS.nop.seq vx1).seq vx2).as _
  first | refine body_ri ri (.inr rfl) (by simp -implicitDefEqProofs [hN, getN hN, setN hN, getN0 hN, setN0 hN]; rfl) (by simp -implicitDefEqProofs [hN, getN hN, setN hN, getN0 hN, setN0 hN]; rfl) (by simp) ?_ | refine body_ri ri (.inl rfl) (by simp -implicitDefEqProofs [hN, getN hN, setN hN, getN0 hN, setN0 hN]; rfl) (by simp -implicitDefEqProofs [hN, getN hN, setN hN, getN0 hN, setN0 hN]; rfl) (by simp) ?_
  exact ⟨⟨_, rfl, vs.1⟩, by rw [vs.2]; exact ri⟩
end Go.Proofs.YtdncoobpdllpkaaGreat.D

/- Bytes as messages, the document's reader: instances. -/
set_option linter.unusedVariables false
set_option linter.unusedSimpArgs false
set_option maxRecDepth 20000
namespace Go.Proofs.YtdncoobpdllpkaaGreat.D
open Go Go.Proofs.YtdncoobpdllpkaaGreat.V Go.Proofs.YtdncoobpdllpkaaGreat.N
def Inst.av' (x : Inst) : AV := .agg x.c
theorem iinst_ok : IRd 45 rdInst Inst.av' := by
  rintro h rid B st hB ri
  refine acalls_of_awp Tryz.func45 rfl (by simp only [List.length_cons, List.length_nil]; decide) ?_
  simp only [params_cons, params_nil]
  obtain ⟨N, hN⟩ : ∃ N, h.length = N := ⟨_, rfl⟩
  refine awp_seq ?_
  refine zg ?_
  refine goes_done ?_
  (try simp only [vq, if_true, reduceIte, Nat.reduceEqDiff, reduceCtorEq])
  refine awp_hard (id := h.length) (by simp -implicitDefEqProofs; rfl) ?_
  simp -implicitDefEqProofs only [Slots.melt, AV.melt, Nat.add_left_cancel_iff, Nat.add_eq_left, Nat.left_eq_add, Nat.reduceEqDiff, reduceIte, Nat.succ_ne_self, Nat.one_ne_zero, Nat.zero_ne_one, List.set_append_right, List.set_append_left, Nat.sub_self, Nat.le_refl, Nat.add_sub_cancel_left, Nat.le_add_right, List.set_cons_zero, List.set_cons_succ]
  rw [hN]
  repeat (first | ((first | refine zd ?_ | refine zx ?_ | refine zk ?_ | refine zl ?_ | refine zr ?_); refine zq ?_) | refine zs ?_ | refine zh (by simp -implicitDefEqProofs (disch := (first | omega | (simp; done) | fail)) [if_pos, if_neg, wrap_i64, tmod_pos, tdiv_pos, Int.toNat_add, hN, getN hN, setN hN, getN0 hN, setN0 hN]; rfl) ?_ | refine zb ?_ | refine zo ?_ | refine zt ?_ | refine zf ?_)
  refine goes_callS (callable_of Tryz.func42) (by simp -implicitDefEqProofs (disch := (first | omega | (simp; done) | fail)) [if_pos, if_neg, wrap_i64, tmod_pos, tdiv_pos, Int.toNat_add] <;> first | rfl | omega) _ (inumi_ok.at_ hB ri) ?_
  rintro _ _ ⟨⟨x1, rfl, vx1⟩, h', rfl, hl', ri2⟩
  clear ri
  have ri := ri2
  replace hN := hl'.trans hN
  clear ri2 hl'
  refine goes_eq (by simp -implicitDefEqProofs (disch := (first | omega | (simp; done) | fail)) [if_pos, if_neg, wrap_i64, tmod_pos, tdiv_pos, Int.toNat_add, hN, getN hN, setN hN, getN0 hN, setN0 hN]; rfl) ?_
  repeat (first | ((first | refine zd ?_ | refine zx ?_ | refine zk ?_ | refine zl ?_ | refine zr ?_); refine zq ?_) | refine zs ?_ | refine zh (by simp -implicitDefEqProofs (disch := (first | omega | (simp; done) | fail)) [if_pos, if_neg, wrap_i64, tmod_pos, tdiv_pos, Int.toNat_add, hN, getN hN, setN hN, getN0 hN, setN0 hN]; rfl) ?_ | refine zb ?_ | refine zo ?_ | refine zt ?_ | refine zf ?_)
  refine goes_callS (callable_of Tryz.func67) (by simp -implicitDefEqProofs (disch := (first | omega | (simp; done) | fail)) [if_pos, if_neg, wrap_i64, tmod_pos, tdiv_pos, Int.toNat_add, Bal.av', Bal.c] <;> first | rfl | omega) _ (ibal_ok.at_ hB ri) ?_
  rintro _ _ ⟨⟨x2, rfl, vx2⟩, h', rfl, hl', ri2⟩
  clear ri
  have ri := ri2
  replace hN := hl'.trans hN
  clear ri2 hl'
  refine goes_eq (by simp -implicitDefEqProofs (disch := (first | omega | (simp; done) | fail)) [if_pos, if_neg, wrap_i64, tmod_pos, tdiv_pos, Int.toNat_add, hN, getN hN, setN hN, getN0 hN, setN0 hN, Bal.av', Bal.c]; rfl) ?_
  repeat (first | ((first | refine zd ?_ | refine zx ?_ | refine zk ?_ | refine zl ?_ | refine zr ?_); refine zq ?_) | refine zs ?_ | refine zh (by simp -implicitDefEqProofs (disch := (first | omega | (simp; done) | fail)) [if_pos, if_neg, wrap_i64, tmod_pos, tdiv_pos, Int.toNat_add, hN, getN hN, setN hN, getN0 hN, setN0 hN]; rfl) ?_ | refine zb ?_ | refine zo ?_ | refine zt ?_ | refine zf ?_)
  refine goes_callS (callable_of Tryz.func67) (by simp -implicitDefEqProofs (disch := (first | omega | (simp; done) | fail)) [if_pos, if_neg, wrap_i64, tmod_pos, tdiv_pos, Int.toNat_add, Bal.av', Bal.c] <;> first | rfl | omega) _ (ibal_ok.at_ hB ri) ?_
  rintro _ _ ⟨⟨x3, rfl, vx3⟩, h', rfl, hl', ri2⟩
  clear ri
  have ri := ri2
  replace hN := hl'.trans hN
  clear ri2 hl'
  refine goes_eq (by simp -implicitDefEqProofs (disch := (first | omega | (simp; done) | fail)) [if_pos, if_neg, wrap_i64, tmod_pos, tdiv_pos, Int.toNat_add, hN, getN hN, setN hN, getN0 hN, setN0 hN, Bal.av', Bal.c]; rfl) ?_
  repeat (first | ((first | refine zd ?_ | refine zx ?_ | refine zk ?_ | refine zl ?_ | refine zr ?_); refine zq ?_) | refine zs ?_ | refine zh (by simp -implicitDefEqProofs (disch := (first | omega | (simp; done) | fail)) [if_pos, if_neg, wrap_i64, tmod_pos, tdiv_pos, Int.toNat_add, hN, getN hN, setN hN, getN0 hN, setN0 hN]; rfl) ?_ | refine zb ?_ | refine zo ?_ | refine zt ?_ | refine zf ?_)
  refine goes_callS (callable_of Tryz.func42) (by simp -implicitDefEqProofs (disch := (first | omega | (simp; done) | fail)) [if_pos, if_neg, wrap_i64, tmod_pos, tdiv_pos, Int.toNat_add] <;> first | rfl | omega) _ (inumi_ok.at_ hB ri) ?_
  rintro _ _ ⟨⟨y1, rfl, vy1⟩, h', rfl, hl', ri2⟩
  clear ri
  have ri := ri2
  replace hN := hl'.trans hN
  clear ri2 hl'
  refine goes_eq (by simp -implicitDefEqProofs (disch := (first | omega | (simp; done) | fail)) [if_pos, if_neg, wrap_i64, tmod_pos, tdiv_pos, Int.toNat_add, hN, getN hN, setN hN, getN0 hN, setN0 hN]; rfl) ?_
  repeat (first | ((first | refine zd ?_ | refine zx ?_ | refine zk ?_ | refine zl ?_ | refine zr ?_); refine zq ?_) | refine zs ?_ | refine zh (by simp -implicitDefEqProofs (disch := (first | omega | (simp; done) | fail)) [if_pos, if_neg, wrap_i64, tmod_pos, tdiv_pos, Int.toNat_add, hN, getN hN, setN hN, getN0 hN, setN0 hN]; rfl) ?_ | refine zb ?_ | refine zo ?_ | refine zt ?_ | refine zf ?_)
  refine goes_callS (callable_of Tryz.func42) (by simp -implicitDefEqProofs (disch := (first | omega | (simp; done) | fail)) [if_pos, if_neg, wrap_i64, tmod_pos, tdiv_pos, Int.toNat_add] <;> first | rfl | omega) _ (inumi_ok.at_ hB ri) ?_
  rintro _ _ ⟨⟨y2, rfl, vy2⟩, h', rfl, hl', ri2⟩
  clear ri
  have ri := ri2
  replace hN := hl'.trans hN
  clear ri2 hl'
  refine goes_eq (by simp -implicitDefEqProofs (disch := (first | omega | (simp; done) | fail)) [if_pos, if_neg, wrap_i64, tmod_pos, tdiv_pos, Int.toNat_add, hN, getN hN, setN hN, getN0 hN, setN0 hN]; rfl) ?_
  repeat (first | ((first | refine zd ?_ | refine zx ?_ | refine zk ?_ | refine zl ?_ | refine zr ?_); refine zq ?_) | refine zs ?_ | refine zh (by simp -implicitDefEqProofs (disch := (first | omega | (simp; done) | fail)) [if_pos, if_neg, wrap_i64, tmod_pos, tdiv_pos, Int.toNat_add, hN, getN hN, setN hN, getN0 hN, setN0 hN]; rfl) ?_ | refine zb ?_ | refine zo ?_ | refine zt ?_ | refine zf ?_)
  refine goes_callS (callable_of Tryz.func42) (by simp -implicitDefEqProofs (disch := (first | omega | (simp; done) | fail)) [if_pos, if_neg, wrap_i64, tmod_pos, tdiv_pos, Int.toNat_add] <;> first | rfl | omega) _ (inumi_ok.at_ hB ri) ?_
  rintro _ _ ⟨⟨y3, rfl, vy3⟩, h', rfl, hl', ri2⟩
  clear ri
  have ri := ri2
  replace hN := hl'.trans hN
  clear ri2 hl'
  refine goes_eq (by simp -implicitDefEqProofs (disch := (first | omega | (simp; done) | fail)) [if_pos, if_neg, wrap_i64, tmod_pos, tdiv_pos, Int.toNat_add, hN, getN hN, setN hN, getN0 hN, setN0 hN]; rfl) ?_
  repeat (first | ((first | refine zd ?_ | refine zx ?_ | refine zk ?_ | refine zl ?_ | refine zr ?_); refine zq ?_) | refine zs ?_ | refine zh (by simp -implicitDefEqProofs (disch := (first | omega | (simp; done) | fail)) [if_pos, if_neg, wrap_i64, tmod_pos, tdiv_pos, Int.toNat_add, hN, getN hN, setN hN, getN0 hN, setN0 hN]; rfl) ?_ | refine zb ?_ | refine zo ?_ | refine zt ?_ | refine zf ?_)
  refine goes_callS (callable_of Tryz.func66) (by simp -implicitDefEqProofs (disch := (first | omega | (simp; done) | fail)) [if_pos, if_neg, wrap_i64, tmod_pos, tdiv_pos, Int.toNat_add] <;> first | rfl | omega) _ (itexti_ok.at_ hB ri) ?_
  rintro _ _ ⟨⟨y4, rfl, vy4⟩, h', rfl, hl', ri2⟩
  clear ri
  have ri := ri2
  replace hN := hl'.trans hN
  clear ri2 hl'
  refine goes_eq (by simp -implicitDefEqProofs (disch := (first | omega | (simp; done) | fail)) [if_pos, if_neg, wrap_i64, tmod_pos, tdiv_pos, Int.toNat_add, hN, getN hN, setN hN, getN0 hN, setN0 hN]; rfl) ?_
  repeat (first | ((first | refine zd ?_ | refine zx ?_ | refine zk ?_ | refine zl ?_ | refine zr ?_); refine zq ?_) | refine zs ?_ | refine zh (by simp -implicitDefEqProofs (disch := (first | omega | (simp; done) | fail)) [if_pos, if_neg, wrap_i64, tmod_pos, tdiv_pos, Int.toNat_add, hN, getN hN, setN hN, getN0 hN, setN0 hN]; rfl) ?_ | refine zb ?_ | refine zo ?_ | refine zt ?_ | refine zf ?_)
  refine goes_callS (callable_of Tryz.func66) (by simp -implicitDefEqProofs (disch := (first | omega | (simp; done) | fail)) [if_pos, if_neg, wrap_i64, tmod_pos, tdiv_pos, Int.toNat_add] <;> first | rfl | omega) _ (itexti_ok.at_ hB ri) ?_
  rintro _ _ ⟨⟨y5, rfl, vy5⟩, h', rfl, hl', ri2⟩
  clear ri
  have ri := ri2
  replace hN := hl'.trans hN
  clear ri2 hl'
  refine goes_eq (by simp -implicitDefEqProofs (disch := (first | omega | (simp; done) | fail)) [if_pos, if_neg, wrap_i64, tmod_pos, tdiv_pos, Int.toNat_add, hN, getN hN, setN hN, getN0 hN, setN0 hN]; rfl) ?_
  repeat (first | ((first | refine zd ?_ | refine zx ?_ | refine zk ?_ | refine zl ?_ | refine zr ?_); refine zq ?_) | refine zs ?_ | refine zh (by simp -implicitDefEqProofs (disch := (first | omega | (simp; done) | fail)) [if_pos, if_neg, wrap_i64, tmod_pos, tdiv_pos, Int.toNat_add, hN, getN hN, setN hN, getN0 hN, setN0 hN]; rfl) ?_ | refine zb ?_ | refine zo ?_ | refine zt ?_ | refine zf ?_)
  refine goes_callS (callable_of Tryz.func42) (by simp -implicitDefEqProofs (disch := (first | omega | (simp; done) | fail)) [if_pos, if_neg, wrap_i64, tmod_pos, tdiv_pos, Int.toNat_add] <;> first | rfl | omega) _ (inumi_ok.at_ hB ri) ?_
  rintro _ _ ⟨⟨y6, rfl, vy6⟩, h', rfl, hl', ri2⟩
  clear ri
  have ri := ri2
  replace hN := hl'.trans hN
  clear ri2 hl'
  refine goes_eq (by simp -implicitDefEqProofs (disch := (first | omega | (simp; done) | fail)) [if_pos, if_neg, wrap_i64, tmod_pos, tdiv_pos, Int.toNat_add, hN, getN hN, setN hN, getN0 hN, setN0 hN]; rfl) ?_
  repeat (first | ((first | refine zd ?_ | refine zx ?_ | refine zk ?_ | refine zl ?_ | refine zr ?_); refine zq ?_) | refine zs ?_ | refine zh (by simp -implicitDefEqProofs (disch := (first | omega | (simp; done) | fail)) [if_pos, if_neg, wrap_i64, tmod_pos, tdiv_pos, Int.toNat_add, hN, getN hN, setN hN, getN0 hN, setN0 hN]; rfl) ?_ | refine zb ?_ | refine zo ?_ | refine zt ?_ | refine zf ?_)
  refine goes_callS (callable_of Tryz.func42) (by simp -implicitDefEqProofs (disch := (first | omega | (simp; done) | fail)) [if_pos, if_neg, wrap_i64, tmod_pos, tdiv_pos, Int.toNat_add] <;> first | rfl | omega) _ (inumi_ok.at_ hB ri) ?_
  rintro _ _ ⟨⟨y7, rfl, vy7⟩, h', rfl, hl', ri2⟩
  clear ri
  have ri := ri2
  replace hN := hl'.trans hN
  clear ri2 hl'
  refine goes_eq (by simp -implicitDefEqProofs (disch := (first | omega | (simp; done) | fail)) [if_pos, if_neg, wrap_i64, tmod_pos, tdiv_pos, Int.toNat_add, hN, getN hN, setN hN, getN0 hN, setN0 hN]; rfl) ?_
  repeat (first | ((first | refine zd ?_ | refine zx ?_ | refine zk ?_ | refine zl ?_ | refine zr ?_); refine zq ?_) | refine zs ?_ | refine zh (by simp -implicitDefEqProofs (disch := (first | omega | (simp; done) | fail)) [if_pos, if_neg, wrap_i64, tmod_pos, tdiv_pos, Int.toNat_add, hN, getN hN, setN hN, getN0 hN, setN0 hN]; rfl) ?_ | refine zb ?_ | refine zo ?_ | refine zt ?_ | refine zf ?_)
  refine goes_callS (callable_of Tryz.func42) (by simp -implicitDefEqProofs (disch := (first | omega | (simp; done) | fail)) [if_pos, if_neg, wrap_i64, tmod_pos, tdiv_pos, Int.toNat_add] <;> first | rfl | omega) _ (inumi_ok.at_ hB ri) ?_
  rintro _ _ ⟨⟨y8, rfl, vy8⟩, h', rfl, hl', ri2⟩
  clear ri
  have ri := ri2
  replace hN := hl'.trans hN
  clear ri2 hl'
  refine goes_eq (by simp -implicitDefEqProofs (disch := (first | omega | (simp; done) | fail)) [if_pos, if_neg, wrap_i64, tmod_pos, tdiv_pos, Int.toNat_add, hN, getN hN, setN hN, getN0 hN, setN0 hN]; rfl) ?_
  repeat (first | ((first | refine zd ?_ | refine zx ?_ | refine zk ?_ | refine zl ?_ | refine zr ?_); refine zq ?_) | refine zs ?_ | refine zh (by simp -implicitDefEqProofs (disch := (first | omega | (simp; done) | fail)) [if_pos, if_neg, wrap_i64, tmod_pos, tdiv_pos, Int.toNat_add, hN, getN hN, setN hN, getN0 hN, setN0 hN]; rfl) ?_ | refine zb ?_ | refine zo ?_ | refine zt ?_ | refine zf ?_)
  refine goes_callS (callable_of Tryz.func42) (by simp -implicitDefEqProofs (disch := (first | omega | (simp; done) | fail)) [if_pos, if_neg, wrap_i64, tmod_pos, tdiv_pos, Int.toNat_add] <;> first | rfl | omega) _ (inumi_ok.at_ hB ri) ?_
  rintro _ _ ⟨⟨x5, rfl, vx5⟩, h', rfl, hl', ri2⟩
  clear ri
  have ri := ri2
  replace hN := hl'.trans hN
  clear ri2 hl'
  refine goes_eq (by simp -implicitDefEqProofs (disch := (first | omega | (simp; done) | fail)) [if_pos, if_neg, wrap_i64, tmod_pos, tdiv_pos, Int.toNat_add, hN, getN hN, setN hN, getN0 hN, setN0 hN]; rfl) ?_
  repeat (first | ((first | refine zd ?_ | refine zx ?_ | refine zk ?_ | refine zl ?_ | refine zr ?_); refine zq ?_) | refine zs ?_ | refine zh (by simp -implicitDefEqProofs (disch := (first | omega | (simp; done) | fail)) [if_pos, if_neg, wrap_i64, tmod_pos, tdiv_pos, Int.toNat_add, hN, getN hN, setN hN, getN0 hN, setN0 hN]; rfl) ?_ | refine zb ?_ | refine zo ?_ | refine zt ?_ | refine zf ?_)
  refine goes_callS (callable_of Tryz.func65) (by simp -implicitDefEqProofs (disch := (first | omega | (simp; done) | fail)) [if_pos, if_neg, wrap_i64, tmod_pos, tdiv_pos, Int.toNat_add, nv] <;> first | rfl | omega) _ (ilist_ok.at_ hB ri) ?_
  rintro _ _ ⟨⟨n, rfl, vn⟩, h', rfl, hl', ri2⟩
  clear ri
  have ri := ri2
  replace hN := hl'.trans hN
  clear ri2 hl'
  refine goes_eq (by simp -implicitDefEqProofs (disch := (first | omega | (simp; done) | fail)) [if_pos, if_neg, wrap_i64, tmod_pos, tdiv_pos, Int.toNat_add, hN, getN hN, setN hN, getN0 hN, setN0 hN, nv]; rfl) ?_
  have vs0 := (((((VS.nop.seq vx1).seq vx2).seq vx3).seq2 (((((((((VS.nop.seq vy1).seq vy2).seq vy3).seq vy4).seq vy5).seq vy6).seq vy7).seq vy8).as (fun p => (⟨p.1.1.1.1.1.1.1.2, p.1.1.1.1.1.1.2, p.1.1.1.1.1.2, p.1.1.1.1.2, p.1.1.1.2, p.1.1.2, p.1.2, p.2⟩ : Cmd)))).seq vx5)
  generalize runT rdNum (runT rdNum (runT rdNum (runT rdNum (runT rdText (runT rdText (runT rdNum (runT rdNum (runT rdNum (runT rdBal (runT rdBal (runT rdNum st))))))))))) = st5 at *
  clear vx1 vx2 vx3 vy1 vy2 vy3 vy4 vy5 vy6 vy7 vy8 vx5
  refine goes_done ?_
  repeat (first | ((first | refine zd ?_ | refine zx ?_ | refine zk ?_ | refine zl ?_ | refine zr ?_); refine zq ?_) | refine zs ?_ | refine zh (by simp -implicitDefEqProofs (disch := (first | omega | (simp; done) | fail)) [if_pos, if_neg, wrap_i64, tmod_pos, tdiv_pos, Int.toNat_add, hN, getN hN, setN hN, getN0 hN, setN0 hN]; rfl) ?_ | refine zb ?_ | refine zo ?_ | refine zt ?_ | refine zf ?_)
  refine awp_cut_block (fun st' => ∃ (i : Nat) (xs : List Iid) (st2 : St) (h2 X : AHeap) (tok : Tok), i ≤ n ∧ (xs = [] → tok = .full) ∧ VS (rdN rdId i) (runT rdSize st5) xs st2 ∧ (i = n ∨ ∃ e, st2 = .error e) ∧ RI h rid B st2 h2 ∧ h2.length = N ∧ st'.le ⟨Tryz.f45.ntmps, [(1, .ref [.ptr rid 0] 0), (2, .ptr (N + 1) 0), (3, .ptr (N + 2) 0)], h2 ++ (.dead :: .cells [iv 0, iv 0, iv 0, iv 0, iv 0, iv 0, iv 0, iv 0, .str [], .str [], iv 0, iv 0, iv 0, iv 0, .list [] .full] :: .cells [iv x1, iv x2.no, iv x2.node, iv x3.no, iv x3.node, iv y1, iv y2, iv y3, .str y4, .str y5, iv y6, iv y7, iv y8, iv x5, .list (xs.map Iid.av) tok] :: X)⟩) ?_ ?_
  · refine awp_loop (fun z st => ∃ (i : Nat) (xs : List Iid) (st2 : St) (h2 X : AHeap) (tok : Tok), z = n - i ∧ i ≤ n ∧ xs.length = i ∧ (xs = [] → tok = .full) ∧ VS (rdN rdId i) (runT rdSize st5) xs st2 ∧ RI h rid B st2 h2 ∧ h2.length = N ∧ TokAt N 3 X 49 3 tok ∧ st.le ⟨Tryz.f45.ntmps, [(1, .ref [.ptr rid 0] 0), (2, .ptr (N + 1) 0), (3, .ptr (N + 2) 0), (4, .int .i64 (n : Nat)), (5, .int .i64 (i : Nat))], h2 ++ (.dead :: .cells [iv 0, iv 0, iv 0, iv 0, iv 0, iv 0, iv 0, iv 0, .str [], .str [], iv 0, iv 0, iv 0, iv 0, .list [] .full] :: .cells [iv x1, iv x2.no, iv x2.node, iv x3.no, iv x3.node, iv y1, iv y2, iv y3, .str y4, .str y5, iv y6, iv y7, iv y8, iv x5, .list (xs.map Iid.av) tok] :: X)⟩) n ?_ ?_
    · exact ⟨0, [], _, h', [], .full, rfl, Nat.zero_le _, rfl, fun _ => rfl, VS.none _ _, ri, hN, .full, st_keep' (by simp []) (by simp [])⟩
    rintro z st ⟨i, xs, st2, h2, X, tok, rfl, hi, hxl, hft, va, ri2, hN2, ht, hle⟩
    refine awp_le hle ?_
    clear hle ri hN
    have ri := ri2
    have hN := hN2
    clear ri2 hN2
    by_cases hin : i = n
    · subst hin
      repeat (first | ((first | refine zd ?_ | refine zx ?_ | refine zk ?_ | refine zl ?_ | refine zr ?_); refine zq ?_) | refine zs ?_ | refine zh (by simp -implicitDefEqProofs (disch := (first | omega | (simp; done) | fail)) [if_pos, if_neg, wrap_i64, tmod_pos, tdiv_pos, Int.toNat_add, hN, getN hN, setN hN, getN0 hN, setN0 hN]; rfl) ?_ | refine zb ?_ | refine zo ?_ | refine zt ?_ | refine zf ?_)
      exact ⟨i, xs, st2, h2, X, tok, Nat.le_refl _, hft, va, .inl rfl, ri, hN, st_keep' (by simp []) (by simp [])⟩
    have q1 : (i : Int) < (n : Int) := by omega
    obtain ⟨a, e, hg, ha, hs⟩ := ri.getl
    unfold rdr at hg
    rcases st2 with e' | l
    · obtain ⟨he, rfl⟩ := hs
      have q2 : ((e : Int) == 0) = false := by simp; omega
      repeat (first | ((first | refine zd ?_ | refine zx ?_ | refine zk ?_ | refine zl ?_ | refine zr ?_); refine zq ?_) | refine zs ?_ | refine zh (by simp -implicitDefEqProofs (disch := (first | omega | (simp; done) | fail)) [if_pos, if_neg, wrap_i64, tmod_pos, tdiv_pos, Int.toNat_add, hN, getN hN, setN hN, getN0 hN, setN0 hN, hg, q1, q2]; rfl) ?_ | refine zb ?_ | refine zo ?_ | refine zt ?_ | refine zf ?_)
      exact ⟨i, xs, _, h2, X, tok, hi, hft, va, .inr ⟨_, rfl⟩, ri, hN, st_keep' (by simp []) (by simp [])⟩
    obtain ⟨rfl, _⟩ := hs
    have hg : ∀ l : AHeap, (h2 ++ l)[rid]? = some (.cells [.str B, .int .i64 (a : Nat), .int .i64 0]) := hg
    repeat (first | ((first | refine zd ?_ | refine zx ?_ | refine zk ?_ | refine zl ?_ | refine zr ?_); refine zq ?_) | refine zs ?_ | refine zh (by simp -implicitDefEqProofs (disch := (first | omega | (simp; done) | fail)) [if_pos, if_neg, wrap_i64, tmod_pos, tdiv_pos, Int.toNat_add, hN, getN hN, setN hN, getN0 hN, setN0 hN, hg, q1]; rfl) ?_ | refine zb ?_ | refine zo ?_ | refine zt ?_ | refine zf ?_)
    clear hg
    have hu := idl_uni xs
    have hx1 := isz_le vn va.2
    have hx2 : (xs.length + 1) * 24 ≤ 140737488355328 := by omega
    have hx3 : xs.length ≤ 140737488355327 := by omega
    rcases ht with rfl | ⟨j, rfl, hj⟩
    · refine awp_draw (.q 0 (.q 1 (.q 3 (.two 2 4 (.a 4 (.a 5 (.a 6 (.q 7 (.q 8 (.a 9 (.done))))))) (.two 2 5 (.a 5 (.a 6 (.q 7 (.q 8 (.a 9 (.done)))))) (.a 2 (.a 6 (.q 7 (.q 8 (.a 9 (.done))))))))))) (by kernel_rfl) (by kernel_rfl) (tree_start (goesT_eq (by simp -implicitDefEqProofs (disch := (first | omega | (simp; done) | fail)) [if_pos, if_neg, wrap_i64, tmod_pos, tdiv_pos, Int.toNat_add, hN, getN hN, setN hN, getN0 hN, setN0 hN]; rfl) ?_))
      repeat' (first | (refine goesT_two (goesT_eq (by simp -implicitDefEqProofs (disch := (first | omega | (simp; done) | fail)) [if_pos, if_neg, wrap_i64, tmod_pos, tdiv_pos, Int.toNat_add, hN, getN hN, setN hN, getN0 hN, setN0 hN, hu, hx2, hx3, Iid.av, Iid.c]; rfl) ?_) (goesT_eq (by simp -implicitDefEqProofs (disch := (first | omega | (simp; done) | fail)) [if_pos, if_neg, wrap_i64, tmod_pos, tdiv_pos, Int.toNat_add, hN, getN hN, setN hN, getN0 hN, setN0 hN, hu, hx2, hx3, Iid.av, Iid.c]; rfl) ?_)) | (refine goesT_callS (callable_of Tryz.func44) (by simp -implicitDefEqProofs (disch := (first | omega | (simp; done) | fail)) [if_pos, if_neg, wrap_i64, tmod_pos, tdiv_pos, Int.toNat_add] <;> first | rfl | omega) _ (iid_ok.at_ hB ri) ?_; rintro _ _ ⟨⟨x, rfl, vx⟩, h', rfl, hl', ri2⟩; clear ri; have ri := ri2; replace hN := hl'.trans hN; clear ri2 hl'; refine goesT_eq (by simp -implicitDefEqProofs (disch := (first | omega | (simp; done) | fail)) [if_pos, if_neg, wrap_i64, tmod_pos, tdiv_pos, Int.toNat_add, hN, getN hN, setN hN, getN0 hN, setN0 hN, hu, hx2, hx3, Iid.av, Iid.c]; rfl) ?_))
      all_goals
        refine goesT_done ?_
        (try simp only [vq, if_true, reduceIte, Nat.reduceEqDiff, reduceCtorEq])
        repeat (first | ((first | refine zd ?_ | refine zx ?_ | refine zk ?_ | refine zl ?_ | refine zr ?_); refine zq ?_) | refine zs ?_ | refine zg ?_ | refine zb ?_ | refine zo ?_ | refine zt ?_ | refine zf ?_)
        exact ⟨n - (i + 1), by omega, i + 1, xs ++ [x], _, h', X ++ [.tail 49 3], .own (N + (X.length + 3)), rfl, by omega, by simp [hxl], (fun h => by simp at h), va.next id_nil vx, ri, hN, .new (by simp), st_keep' (by simp [Iid.av, Iid.c]) (by simp [Iid.av, Iid.c])⟩
    · refine awp_draw (.q 0 (.q 1 (.q 3 (.two 2 4 (.a 4 (.a 5 (.a 6 (.q 7 (.q 8 (.a 9 (.done))))))) (.two 2 5 (.a 5 (.a 6 (.q 7 (.q 8 (.a 9 (.done)))))) (.a 2 (.a 6 (.q 7 (.q 8 (.a 9 (.done))))))))))) (by kernel_rfl) (by kernel_rfl) (tree_start (goesT_eq (by simp -implicitDefEqProofs (disch := (first | omega | (simp; done) | fail)) [if_pos, if_neg, wrap_i64, tmod_pos, tdiv_pos, Int.toNat_add, hN, getN hN, setN hN, getN0 hN, setN0 hN]; rfl) ?_))
      repeat' (first | (refine goesT_two (goesT_eq (by simp -implicitDefEqProofs (disch := (first | omega | (simp; done) | fail)) [if_pos, if_neg, wrap_i64, tmod_pos, tdiv_pos, Int.toNat_add, hN, getN hN, setN hN, getN0 hN, setN0 hN, hj, hu, hx2, hx3, Iid.av, Iid.c]; rfl) ?_) (goesT_eq (by simp -implicitDefEqProofs (disch := (first | omega | (simp; done) | fail)) [if_pos, if_neg, wrap_i64, tmod_pos, tdiv_pos, Int.toNat_add, hN, getN hN, setN hN, getN0 hN, setN0 hN, hj, hu, hx2, hx3, Iid.av, Iid.c]; rfl) ?_)) | (refine goesT_callS (callable_of Tryz.func44) (by simp -implicitDefEqProofs (disch := (first | omega | (simp; done) | fail)) [if_pos, if_neg, wrap_i64, tmod_pos, tdiv_pos, Int.toNat_add] <;> first | rfl | omega) _ (iid_ok.at_ hB ri) ?_; rintro _ _ ⟨⟨x, rfl, vx⟩, h', rfl, hl', ri2⟩; clear ri; have ri := ri2; replace hN := hl'.trans hN; clear ri2 hl'; refine goesT_eq (by simp -implicitDefEqProofs (disch := (first | omega | (simp; done) | fail)) [if_pos, if_neg, wrap_i64, tmod_pos, tdiv_pos, Int.toNat_add, hN, getN hN, setN hN, getN0 hN, setN0 hN, hj, hu, hx2, hx3, Iid.av, Iid.c]; rfl) ?_))
      all_goals
        refine goesT_done ?_
        (try simp only [vq, if_true, reduceIte, Nat.reduceEqDiff, reduceCtorEq])
        repeat (first | ((first | refine zd ?_ | refine zx ?_ | refine zk ?_ | refine zl ?_ | refine zr ?_); refine zq ?_) | refine zs ?_ | refine zg ?_ | refine zb ?_ | refine zo ?_ | refine zt ?_ | refine zf ?_)
        exact ⟨n - (i + 1), by omega, i + 1, xs ++ [x], _, h', X.set j .dead ++ [.tail 49 3], .own (N + (X.length + 3)), rfl, by omega, by simp [hxl], (fun h => by simp at h), va.next id_nil vx, ri, hN, .new (by simp), st_keep' (by simp [Iid.av, Iid.c]) (by simp [Iid.av, Iid.c])⟩
  rintro st' ⟨i', xs, st2, h2', X, tok, hi', hft', va', hie', ri2, hN2, hle⟩
  refine awp_le hle ?_
  clear hle ri hN
  have ri := ri2
  have hN := hN2
  clear ri2 hN2
  have vd := VS.done vn hi' va' hie'
  clear va' hie' vn hi'
  have vs : VS rdInst st ⟨x1, x2, x3, ⟨y1, y2, y3, y4, y5, y6, y7, y8⟩, x5, xs⟩ st2 := (vs0.seq2 vd).as _
  repeat (first | ((first | refine zd ?_ | refine zx ?_ | refine zk ?_ | refine zl ?_ | refine zr ?_); refine zq ?_) | refine zs ?_ | refine zh (by simp -implicitDefEqProofs (disch := (first | omega | (simp; done) | fail)) [if_pos, if_neg, wrap_i64, tmod_pos, tdiv_pos, Int.toNat_add, hN, getN hN, setN hN, getN0 hN, setN0 hN]; rfl) ?_ | refine zb ?_ | refine zo ?_ | refine zt ?_ | refine zf ?_)
  first | refine body_ri ri (.inr rfl) (by simp -implicitDefEqProofs [hN, getN hN, setN hN, getN0 hN, setN0 hN]; rfl) (by simp -implicitDefEqProofs [hN, getN hN, setN hN, getN0 hN, setN0 hN]; rfl) (by simp) ?_ | refine body_ri ri (.inl rfl) (by simp -implicitDefEqProofs [hN, getN hN, setN hN, getN0 hN, setN0 hN]; rfl) (by simp -implicitDefEqProofs [hN, getN hN, setN hN, getN0 hN, setN0 hN]; rfl) (by simp) ?_
  exact ⟨⟨_, rfl, vs.1⟩, by rw [vs.2]; exact ri⟩
end Go.Proofs.YtdncoobpdllpkaaGreat.D

/- Bytes as messages, the document's reader: snaps. -/
set_option linter.unusedVariables false
set_option linter.unusedSimpArgs false
set_option maxRecDepth 20000
namespace Go.Proofs.YtdncoobpdllpkaaGreat.D
open Go Go.Proofs.YtdncoobpdllpkaaGreat.V Go.Proofs.YtdncoobpdllpkaaGreat.N
def Snap.av' (x : Snap) : AV := .agg x.c
def nmV : List (List UInt8) → AV
  | [] => .list [] .full
  | x :: r => .list ((x :: r).map .str) .no
def Sess.fv (x : Sess) : AV := .agg [iv x.client, iv x.seq, iv x.reply.err, .str x.reply.value, iv x.reply.version, nmV x.reply.names]
theorem fv_uni (l : List Sess) : uni 6 (l.map Sess.fv) = true := uni_map fun _ => rfl
theorem fv_s : AV.strip ∘ Sess.fv = Sess.av := funext fun x => by
  obtain ⟨c, s, e, v, n, names⟩ := x
  cases names <;> simp [Sess.fv, Sess.av, Sess.c, Reply.c, nmV, str_s]
set_option maxHeartbeats 2000000 in
theorem isnap_ok : IRd 43 rdSnap Snap.av' := by
  rintro h rid B st hB ri
  refine acalls_of_awp Tryz.func43 rfl (by simp only [List.length_cons, List.length_nil]; decide) ?_
  simp only [params_cons, params_nil]
  obtain ⟨N, hN⟩ : ∃ N, h.length = N := ⟨_, rfl⟩
  refine awp_seq ?_
  refine zg ?_
  refine goes_done ?_
  (try simp only [vq, if_true, reduceIte, Nat.reduceEqDiff, reduceCtorEq])
  refine awp_hard (id := h.length) (by simp -implicitDefEqProofs; rfl) ?_
  simp -implicitDefEqProofs only [Slots.melt, AV.melt, Nat.add_left_cancel_iff, Nat.add_eq_left, Nat.left_eq_add, Nat.reduceEqDiff, reduceIte, Nat.succ_ne_self, Nat.one_ne_zero, Nat.zero_ne_one, List.set_append_right, List.set_append_left, Nat.sub_self, Nat.le_refl, Nat.add_sub_cancel_left, Nat.le_add_right, List.set_cons_zero, List.set_cons_succ]
  rw [hN]
  repeat (first | ((first | refine zd ?_ | refine zx ?_ | refine zk ?_ | refine zl ?_ | refine zr ?_); refine zq ?_) | refine zs ?_ | refine zh (by simp -implicitDefEqProofs (disch := (first | omega | (simp; done) | fail)) [if_pos, if_neg, wrap_i64, tmod_pos, tdiv_pos, Int.toNat_add, hN, getN hN, setN hN, getN0 hN, setN0 hN]; rfl) ?_ | refine zb ?_ | refine zo ?_ | refine zt ?_ | refine zf ?_)
  refine goes_callS (callable_of Tryz.func42) (by simp -implicitDefEqProofs (disch := (first | omega | (simp; done) | fail)) [if_pos, if_neg, wrap_i64, tmod_pos, tdiv_pos, Int.toNat_add] <;> first | rfl | omega) _ (inumi_ok.at_ hB ri) ?_
  rintro _ _ ⟨⟨x1, rfl, vx1⟩, h', rfl, hl', ri2⟩
  clear ri
  have ri := ri2
  replace hN := hl'.trans hN
  clear ri2 hl'
  refine goes_eq (by simp -implicitDefEqProofs (disch := (first | omega | (simp; done) | fail)) [if_pos, if_neg, wrap_i64, tmod_pos, tdiv_pos, Int.toNat_add, hN, getN hN, setN hN, getN0 hN, setN0 hN]; rfl) ?_
  repeat (first | ((first | refine zd ?_ | refine zx ?_ | refine zk ?_ | refine zl ?_ | refine zr ?_); refine zq ?_) | refine zs ?_ | refine zh (by simp -implicitDefEqProofs (disch := (first | omega | (simp; done) | fail)) [if_pos, if_neg, wrap_i64, tmod_pos, tdiv_pos, Int.toNat_add, hN, getN hN, setN hN, getN0 hN, setN0 hN]; rfl) ?_ | refine zb ?_ | refine zo ?_ | refine zt ?_ | refine zf ?_)
  refine goes_callS (callable_of Tryz.func65) (by simp -implicitDefEqProofs (disch := (first | omega | (simp; done) | fail)) [if_pos, if_neg, wrap_i64, tmod_pos, tdiv_pos, Int.toNat_add, nv] <;> first | rfl | omega) _ (ilist_ok.at_ hB ri) ?_
  rintro _ _ ⟨⟨n1, rfl, vn1⟩, h', rfl, hl', ri2⟩
  clear ri
  have ri := ri2
  replace hN := hl'.trans hN
  clear ri2 hl'
  refine goes_eq (by simp -implicitDefEqProofs (disch := (first | omega | (simp; done) | fail)) [if_pos, if_neg, wrap_i64, tmod_pos, tdiv_pos, Int.toNat_add, hN, getN hN, setN hN, getN0 hN, setN0 hN, nv]; rfl) ?_
  have vs0 := VS.nop.seq vx1
  generalize runT rdNum st = st1 at *
  clear vx1
  refine goes_done ?_
  repeat (first | ((first | refine zd ?_ | refine zx ?_ | refine zk ?_ | refine zl ?_ | refine zr ?_); refine zq ?_) | refine zs ?_ | refine zh (by simp -implicitDefEqProofs (disch := (first | omega | (simp; done) | fail)) [if_pos, if_neg, wrap_i64, tmod_pos, tdiv_pos, Int.toNat_add, hN, getN hN, setN hN, getN0 hN, setN0 hN]; rfl) ?_ | refine zb ?_ | refine zo ?_ | refine zt ?_ | refine zf ?_)
  refine awp_cut_block (fun st' => ∃ (i : Nat) (xs : List Int) (st2 : St) (h2 X : AHeap) (tok : Tok), i ≤ n1 ∧ (xs = [] → tok = .full) ∧ VS (rdN rdN1 i) (runT rdSize st1) xs st2 ∧ (i = n1 ∨ ∃ e, st2 = .error e) ∧ RI h rid B st2 h2 ∧ h2.length = N ∧ st'.le ⟨Tryz.f43.ntmps, [(1, .ref [.ptr rid 0] 0), (2, .ptr (N + 1) 0), (3, .ptr (N + 2) 0)], h2 ++ (.dead :: .cells [iv 0, .list [] .full, .list [] .full, .list [] .full] :: .cells [iv x1, .list (xs.map iv) tok, .list [] .full, .list [] .full] :: X)⟩) ?_ ?_
  · refine awp_loop (fun z st => ∃ (i : Nat) (xs : List Int) (st2 : St) (h2 X : AHeap) (tok : Tok), z = n1 - i ∧ i ≤ n1 ∧ xs.length = i ∧ (xs = [] → tok = .full) ∧ VS (rdN rdN1 i) (runT rdSize st1) xs st2 ∧ RI h rid B st2 h2 ∧ h2.length = N ∧ TokAt N 3 X 3 1 tok ∧ st.le ⟨Tryz.f43.ntmps, [(1, .ref [.ptr rid 0] 0), (2, .ptr (N + 1) 0), (3, .ptr (N + 2) 0), (4, .int .i64 (n1 : Nat)), (5, .int .i64 (i : Nat))], h2 ++ (.dead :: .cells [iv 0, .list [] .full, .list [] .full, .list [] .full] :: .cells [iv x1, .list (xs.map iv) tok, .list [] .full, .list [] .full] :: X)⟩) n1 ?_ ?_
    · exact ⟨0, [], _, h', [], .full, rfl, Nat.zero_le _, rfl, fun _ => rfl, VS.none _ _, ri, hN, .full, st_keep' (by simp []) (by simp [])⟩
    rintro z st ⟨i, xs, st2, h2, X, tok, rfl, hi, hxl, hft, va, ri2, hN2, ht, hle⟩
    refine awp_le hle ?_
    clear hle ri hN
    have ri := ri2
    have hN := hN2
    clear ri2 hN2
    by_cases hin : i = n1
    · subst hin
      repeat (first | ((first | refine zd ?_ | refine zx ?_ | refine zk ?_ | refine zl ?_ | refine zr ?_); refine zq ?_) | refine zs ?_ | refine zh (by simp -implicitDefEqProofs (disch := (first | omega | (simp; done) | fail)) [if_pos, if_neg, wrap_i64, tmod_pos, tdiv_pos, Int.toNat_add, hN, getN hN, setN hN, getN0 hN, setN0 hN]; rfl) ?_ | refine zb ?_ | refine zo ?_ | refine zt ?_ | refine zf ?_)
      exact ⟨i, xs, st2, h2, X, tok, Nat.le_refl _, hft, va, .inl rfl, ri, hN, st_keep' (by simp []) (by simp [])⟩
    have q1 : (i : Int) < (n1 : Int) := by omega
    obtain ⟨a, e, hg, ha, hs⟩ := ri.getl
    unfold rdr at hg
    rcases st2 with e' | l
    · obtain ⟨he, rfl⟩ := hs
      have q2 : ((e : Int) == 0) = false := by simp; omega
      repeat (first | ((first | refine zd ?_ | refine zx ?_ | refine zk ?_ | refine zl ?_ | refine zr ?_); refine zq ?_) | refine zs ?_ | refine zh (by simp -implicitDefEqProofs (disch := (first | omega | (simp; done) | fail)) [if_pos, if_neg, wrap_i64, tmod_pos, tdiv_pos, Int.toNat_add, hN, getN hN, setN hN, getN0 hN, setN0 hN, hg, q1, q2]; rfl) ?_ | refine zb ?_ | refine zo ?_ | refine zt ?_ | refine zf ?_)
      exact ⟨i, xs, _, h2, X, tok, hi, hft, va, .inr ⟨_, rfl⟩, ri, hN, st_keep' (by simp []) (by simp [])⟩
    obtain ⟨rfl, _⟩ := hs
    have hg : ∀ l : AHeap, (h2 ++ l)[rid]? = some (.cells [.str B, .int .i64 (a : Nat), .int .i64 0]) := hg
    repeat (first | ((first | refine zd ?_ | refine zx ?_ | refine zk ?_ | refine zl ?_ | refine zr ?_); refine zq ?_) | refine zs ?_ | refine zh (by simp -implicitDefEqProofs (disch := (first | omega | (simp; done) | fail)) [if_pos, if_neg, wrap_i64, tmod_pos, tdiv_pos, Int.toNat_add, hN, getN hN, setN hN, getN0 hN, setN0 hN, hg, q1]; rfl) ?_ | refine zb ?_ | refine zo ?_ | refine zt ?_ | refine zf ?_)
    clear hg
    have hu := iv_uni xs
    have hx1 := isz_le vn1 va.2
    have hx2 : (xs.length + 1) * 8 ≤ 140737488355328 := by omega
    have hx3 : xs.length ≤ 140737488355327 := by omega
    rcases ht with rfl | ⟨j, rfl, hj⟩
    · refine awp_draw (.q 0 (.q 1 (.q 3 (.two 2 4 (.a 4 (.a 5 (.a 6 (.q 7 (.q 8 (.a 9 (.done))))))) (.two 2 5 (.a 5 (.a 6 (.q 7 (.q 8 (.a 9 (.done)))))) (.a 2 (.a 6 (.q 7 (.q 8 (.a 9 (.done))))))))))) (by kernel_rfl) (by kernel_rfl) (tree_start (goesT_eq (by simp -implicitDefEqProofs (disch := (first | omega | (simp; done) | fail)) [if_pos, if_neg, wrap_i64, tmod_pos, tdiv_pos, Int.toNat_add, hN, getN hN, setN hN, getN0 hN, setN0 hN]; rfl) ?_))
      repeat' (first | (refine goesT_two (goesT_eq (by simp -implicitDefEqProofs (disch := (first | omega | (simp; done) | fail)) [if_pos, if_neg, wrap_i64, tmod_pos, tdiv_pos, Int.toNat_add, hN, getN hN, setN hN, getN0 hN, setN0 hN, hu, hx2, hx3]; rfl) ?_) (goesT_eq (by simp -implicitDefEqProofs (disch := (first | omega | (simp; done) | fail)) [if_pos, if_neg, wrap_i64, tmod_pos, tdiv_pos, Int.toNat_add, hN, getN hN, setN hN, getN0 hN, setN0 hN, hu, hx2, hx3]; rfl) ?_)) | (refine goesT_callS (callable_of Tryz.func42) (by simp -implicitDefEqProofs (disch := (first | omega | (simp; done) | fail)) [if_pos, if_neg, wrap_i64, tmod_pos, tdiv_pos, Int.toNat_add] <;> first | rfl | omega) _ (inumi_ok.at_ hB ri) ?_; rintro _ _ ⟨⟨x, rfl, vx⟩, h', rfl, hl', ri2⟩; clear ri; have ri := ri2; replace hN := hl'.trans hN; clear ri2 hl'; refine goesT_eq (by simp -implicitDefEqProofs (disch := (first | omega | (simp; done) | fail)) [if_pos, if_neg, wrap_i64, tmod_pos, tdiv_pos, Int.toNat_add, hN, getN hN, setN hN, getN0 hN, setN0 hN, hu, hx2, hx3]; rfl) ?_))
      all_goals
        refine goesT_done ?_
        (try simp only [vq, if_true, reduceIte, Nat.reduceEqDiff, reduceCtorEq])
        repeat (first | ((first | refine zd ?_ | refine zx ?_ | refine zk ?_ | refine zl ?_ | refine zr ?_); refine zq ?_) | refine zs ?_ | refine zg ?_ | refine zb ?_ | refine zo ?_ | refine zt ?_ | refine zf ?_)
        exact ⟨n1 - (i + 1), by omega, i + 1, xs ++ [x], _, h', X ++ [.tail 3 1], .own (N + (X.length + 3)), rfl, by omega, by simp [hxl], (fun h => by simp at h), va.next2 n1_nil ((VS.nop.seq vx).as _), ri, hN, .new (by simp), st_keep' (by simp []) (by simp [])⟩
    · refine awp_draw (.q 0 (.q 1 (.q 3 (.two 2 4 (.a 4 (.a 5 (.a 6 (.q 7 (.q 8 (.a 9 (.done))))))) (.two 2 5 (.a 5 (.a 6 (.q 7 (.q 8 (.a 9 (.done)))))) (.a 2 (.a 6 (.q 7 (.q 8 (.a 9 (.done))))))))))) (by kernel_rfl) (by kernel_rfl) (tree_start (goesT_eq (by simp -implicitDefEqProofs (disch := (first | omega | (simp; done) | fail)) [if_pos, if_neg, wrap_i64, tmod_pos, tdiv_pos, Int.toNat_add, hN, getN hN, setN hN, getN0 hN, setN0 hN]; rfl) ?_))
      repeat' (first | (refine goesT_two (goesT_eq (by simp -implicitDefEqProofs (disch := (first | omega | (simp; done) | fail)) [if_pos, if_neg, wrap_i64, tmod_pos, tdiv_pos, Int.toNat_add, hN, getN hN, setN hN, getN0 hN, setN0 hN, hj, hu, hx2, hx3]; rfl) ?_) (goesT_eq (by simp -implicitDefEqProofs (disch := (first | omega | (simp; done) | fail)) [if_pos, if_neg, wrap_i64, tmod_pos, tdiv_pos, Int.toNat_add, hN, getN hN, setN hN, getN0 hN, setN0 hN, hj, hu, hx2, hx3]; rfl) ?_)) | (refine goesT_callS (callable_of Tryz.func42) (by simp -implicitDefEqProofs (disch := (first | omega | (simp; done) | fail)) [if_pos, if_neg, wrap_i64, tmod_pos, tdiv_pos, Int.toNat_add] <;> first | rfl | omega) _ (inumi_ok.at_ hB ri) ?_; rintro _ _ ⟨⟨x, rfl, vx⟩, h', rfl, hl', ri2⟩; clear ri; have ri := ri2; replace hN := hl'.trans hN; clear ri2 hl'; refine goesT_eq (by simp -implicitDefEqProofs (disch := (first | omega | (simp; done) | fail)) [if_pos, if_neg, wrap_i64, tmod_pos, tdiv_pos, Int.toNat_add, hN, getN hN, setN hN, getN0 hN, setN0 hN, hj, hu, hx2, hx3]; rfl) ?_))
      all_goals
        refine goesT_done ?_
        (try simp only [vq, if_true, reduceIte, Nat.reduceEqDiff, reduceCtorEq])
        repeat (first | ((first | refine zd ?_ | refine zx ?_ | refine zk ?_ | refine zl ?_ | refine zr ?_); refine zq ?_) | refine zs ?_ | refine zg ?_ | refine zb ?_ | refine zo ?_ | refine zt ?_ | refine zf ?_)
        exact ⟨n1 - (i + 1), by omega, i + 1, xs ++ [x], _, h', X.set j .dead ++ [.tail 3 1], .own (N + (X.length + 3)), rfl, by omega, by simp [hxl], (fun h => by simp at h), va.next2 n1_nil ((VS.nop.seq vx).as _), ri, hN, .new (by simp), st_keep' (by simp []) (by simp [])⟩
  rintro st' ⟨i', nodes, sa, h2', X1, tok1, hi', hft', va', hie', ri2, hN2, hle⟩
  refine awp_le hle ?_
  clear hle ri hN
  have ri := ri2
  have hN := hN2
  clear ri2 hN2
  have vd1 := VS.done vn1 hi' va' hie'
  clear va' hie' vn1 hi'
  have vs1 := vs0.seq2 vd1
  clear vs0 vd1
  repeat (first | ((first | refine zd ?_ | refine zx ?_ | refine zk ?_ | refine zl ?_ | refine zr ?_); refine zq ?_) | refine zs ?_ | refine zh (by simp -implicitDefEqProofs (disch := (first | omega | (simp; done) | fail)) [if_pos, if_neg, wrap_i64, tmod_pos, tdiv_pos, Int.toNat_add, hN, getN hN, setN hN, getN0 hN, setN0 hN]; rfl) ?_ | refine zb ?_ | refine zo ?_ | refine zt ?_ | refine zf ?_)
  refine goes_callS (callable_of Tryz.func65) (by simp -implicitDefEqProofs (disch := (first | omega | (simp; done) | fail)) [if_pos, if_neg, wrap_i64, tmod_pos, tdiv_pos, Int.toNat_add, nv] <;> first | rfl | omega) _ (ilist_ok.at_ hB ri) ?_
  rintro _ _ ⟨⟨n2, rfl, vn2⟩, h', rfl, hl', ri2⟩
  clear ri
  have ri := ri2
  replace hN := hl'.trans hN
  clear ri2 hl'
  refine goes_eq (by simp -implicitDefEqProofs (disch := (first | omega | (simp; done) | fail)) [if_pos, if_neg, wrap_i64, tmod_pos, tdiv_pos, Int.toNat_add, hN, getN hN, setN hN, getN0 hN, setN0 hN, nv]; rfl) ?_
  refine goes_done ?_
  repeat (first | ((first | refine zd ?_ | refine zx ?_ | refine zk ?_ | refine zl ?_ | refine zr ?_); refine zq ?_) | refine zs ?_ | refine zh (by simp -implicitDefEqProofs (disch := (first | omega | (simp; done) | fail)) [if_pos, if_neg, wrap_i64, tmod_pos, tdiv_pos, Int.toNat_add, hN, getN hN, setN hN, getN0 hN, setN0 hN]; rfl) ?_ | refine zb ?_ | refine zo ?_ | refine zt ?_ | refine zf ?_)
  refine awp_cut_block (fun st' => ∃ (i : Nat) (xs : List Entry) (st2 : St) (h2 X : AHeap) (tok : Tok), i ≤ n2 ∧ (xs = [] → tok = .full) ∧ VS (rdN rdEntry i) (runT rdSize sa) xs st2 ∧ (i = n2 ∨ ∃ e, st2 = .error e) ∧ RI h rid B st2 h2 ∧ h2.length = N ∧ st'.le ⟨Tryz.f43.ntmps, [(1, .ref [.ptr rid 0] 0), (2, .ptr (N + 1) 0), (3, .ptr (N + 2) 0)], h2 ++ (.dead :: .cells [iv 0, .list [] .full, .list [] .full, .list [] .full] :: .cells [iv x1, .list (nodes.map iv) tok1, .list (xs.map Entry.av) tok, .list [] .full] :: X)⟩) ?_ ?_
  · refine awp_loop (fun z st => ∃ (i : Nat) (xs : List Entry) (st2 : St) (h2 X : AHeap) (tok : Tok), z = n2 - i ∧ i ≤ n2 ∧ xs.length = i ∧ (xs = [] → tok = .full) ∧ VS (rdN rdEntry i) (runT rdSize sa) xs st2 ∧ RI h rid B st2 h2 ∧ h2.length = N ∧ TokAt N 3 X 67 3 tok ∧ st.le ⟨Tryz.f43.ntmps, [(1, .ref [.ptr rid 0] 0), (2, .ptr (N + 1) 0), (3, .ptr (N + 2) 0), (4, .int .i64 (n2 : Nat)), (6, .int .i64 (i : Nat))], h2 ++ (.dead :: .cells [iv 0, .list [] .full, .list [] .full, .list [] .full] :: .cells [iv x1, .list (nodes.map iv) tok1, .list (xs.map Entry.av) tok, .list [] .full] :: X)⟩) n2 ?_ ?_
    · exact ⟨0, [], _, h', X1, .full, rfl, Nat.zero_le _, rfl, fun _ => rfl, VS.none _ _, ri, hN, .full, st_keep' (by simp []) (by simp [])⟩
    rintro z st ⟨i, xs, st2, h2, X, tok, rfl, hi, hxl, hft, va, ri2, hN2, ht, hle⟩
    refine awp_le hle ?_
    clear hle ri hN
    have ri := ri2
    have hN := hN2
    clear ri2 hN2
    by_cases hin : i = n2
    · subst hin
      repeat (first | ((first | refine zd ?_ | refine zx ?_ | refine zk ?_ | refine zl ?_ | refine zr ?_); refine zq ?_) | refine zs ?_ | refine zh (by simp -implicitDefEqProofs (disch := (first | omega | (simp; done) | fail)) [if_pos, if_neg, wrap_i64, tmod_pos, tdiv_pos, Int.toNat_add, hN, getN hN, setN hN, getN0 hN, setN0 hN]; rfl) ?_ | refine zb ?_ | refine zo ?_ | refine zt ?_ | refine zf ?_)
      exact ⟨i, xs, st2, h2, X, tok, Nat.le_refl _, hft, va, .inl rfl, ri, hN, st_keep' (by simp []) (by simp [])⟩
    have q1 : (i : Int) < (n2 : Int) := by omega
    obtain ⟨a, e, hg, ha, hs⟩ := ri.getl
    unfold rdr at hg
    rcases st2 with e' | l
    · obtain ⟨he, rfl⟩ := hs
      have q2 : ((e : Int) == 0) = false := by simp; omega
      repeat (first | ((first | refine zd ?_ | refine zx ?_ | refine zk ?_ | refine zl ?_ | refine zr ?_); refine zq ?_) | refine zs ?_ | refine zh (by simp -implicitDefEqProofs (disch := (first | omega | (simp; done) | fail)) [if_pos, if_neg, wrap_i64, tmod_pos, tdiv_pos, Int.toNat_add, hN, getN hN, setN hN, getN0 hN, setN0 hN, hg, q1, q2]; rfl) ?_ | refine zb ?_ | refine zo ?_ | refine zt ?_ | refine zf ?_)
      exact ⟨i, xs, _, h2, X, tok, hi, hft, va, .inr ⟨_, rfl⟩, ri, hN, st_keep' (by simp []) (by simp [])⟩
    obtain ⟨rfl, _⟩ := hs
    have hg : ∀ l : AHeap, (h2 ++ l)[rid]? = some (.cells [.str B, .int .i64 (a : Nat), .int .i64 0]) := hg
    repeat (first | ((first | refine zd ?_ | refine zx ?_ | refine zk ?_ | refine zl ?_ | refine zr ?_); refine zq ?_) | refine zs ?_ | refine zh (by simp -implicitDefEqProofs (disch := (first | omega | (simp; done) | fail)) [if_pos, if_neg, wrap_i64, tmod_pos, tdiv_pos, Int.toNat_add, hN, getN hN, setN hN, getN0 hN, setN0 hN, hg, q1]; rfl) ?_ | refine zb ?_ | refine zo ?_ | refine zt ?_ | refine zf ?_)
    clear hg
    have hu := entl_uni xs
    have hx1 := isz_le vn2 va.2
    have hx2 : (xs.length + 1) * 40 ≤ 140737488355328 := by omega
    have hx3 : xs.length ≤ 140737488355327 := by omega
    refine goes_callS (callable_of Tryz.func66) (by simp -implicitDefEqProofs (disch := (first | omega | (simp; done) | fail)) [if_pos, if_neg, wrap_i64, tmod_pos, tdiv_pos, Int.toNat_add] <;> first | rfl | omega) _ (itexti_ok.at_ hB ri) ?_
    rintro _ _ ⟨⟨p1, rfl, vp1⟩, h', rfl, hl', ri2⟩
    clear ri
    have ri := ri2
    replace hN := hl'.trans hN
    clear ri2 hl'
    refine goes_eq (by simp -implicitDefEqProofs (disch := (first | omega | (simp; done) | fail)) [if_pos, if_neg, wrap_i64, tmod_pos, tdiv_pos, Int.toNat_add, hN, getN hN, setN hN, getN0 hN, setN0 hN]; rfl) ?_
    repeat (first | ((first | refine zd ?_ | refine zx ?_ | refine zk ?_ | refine zl ?_ | refine zr ?_); refine zq ?_) | refine zs ?_ | refine zh (by simp -implicitDefEqProofs (disch := (first | omega | (simp; done) | fail)) [if_pos, if_neg, wrap_i64, tmod_pos, tdiv_pos, Int.toNat_add, hN, getN hN, setN hN, getN0 hN, setN0 hN]; rfl) ?_ | refine zb ?_ | refine zo ?_ | refine zt ?_ | refine zf ?_)
    refine goes_callS (callable_of Tryz.func66) (by simp -implicitDefEqProofs (disch := (first | omega | (simp; done) | fail)) [if_pos, if_neg, wrap_i64, tmod_pos, tdiv_pos, Int.toNat_add] <;> first | rfl | omega) _ (itexti_ok.at_ hB ri) ?_
    rintro _ _ ⟨⟨p2, rfl, vp2⟩, h', rfl, hl', ri2⟩
    clear ri
    have ri := ri2
    replace hN := hl'.trans hN
    clear ri2 hl'
    refine goes_eq (by simp -implicitDefEqProofs (disch := (first | omega | (simp; done) | fail)) [if_pos, if_neg, wrap_i64, tmod_pos, tdiv_pos, Int.toNat_add, hN, getN hN, setN hN, getN0 hN, setN0 hN]; rfl) ?_
    repeat (first | ((first | refine zd ?_ | refine zx ?_ | refine zk ?_ | refine zl ?_ | refine zr ?_); refine zq ?_) | refine zs ?_ | refine zh (by simp -implicitDefEqProofs (disch := (first | omega | (simp; done) | fail)) [if_pos, if_neg, wrap_i64, tmod_pos, tdiv_pos, Int.toNat_add, hN, getN hN, setN hN, getN0 hN, setN0 hN]; rfl) ?_ | refine zb ?_ | refine zo ?_ | refine zt ?_ | refine zf ?_)
    refine goes_callS (callable_of Tryz.func42) (by simp -implicitDefEqProofs (disch := (first | omega | (simp; done) | fail)) [if_pos, if_neg, wrap_i64, tmod_pos, tdiv_pos, Int.toNat_add] <;> first | rfl | omega) _ (inumi_ok.at_ hB ri) ?_
    rintro _ _ ⟨⟨p3, rfl, vp3⟩, h', rfl, hl', ri2⟩
    clear ri
    have ri := ri2
    replace hN := hl'.trans hN
    clear ri2 hl'
    refine goes_eq (by simp -implicitDefEqProofs (disch := (first | omega | (simp; done) | fail)) [if_pos, if_neg, wrap_i64, tmod_pos, tdiv_pos, Int.toNat_add, hN, getN hN, setN hN, getN0 hN, setN0 hN]; rfl) ?_
    have ve : VS rdEntry _ ⟨p1, p2, p3⟩ _ := (((VS.nop.seq vp1).seq vp2).seq vp3).as _
    have hv := va.next2 entry_nil ve
    rcases ht with rfl | ⟨j, rfl, hj⟩
    · repeat (first | ((first | refine zd ?_ | refine zx ?_ | refine zk ?_ | refine zl ?_ | refine zr ?_); refine zq ?_) | refine zs ?_ | refine zh (by simp -implicitDefEqProofs (disch := (first | omega | (simp; done) | fail)) [if_pos, if_neg, wrap_i64, tmod_pos, tdiv_pos, Int.toNat_add, hN, getN hN, setN hN, getN0 hN, setN0 hN, hu, hx2, hx3]; rfl) ?_ | refine zb ?_ | refine zo ?_ | refine zt ?_ | refine zf ?_)
      exact ⟨n2 - (i + 1), by omega, i + 1, xs ++ [⟨p1, p2, p3⟩], _, h', X ++ [.cells [.str p1, .str p2, iv p3], .tail 67 3], .own (N + (X.length + 4)), rfl, by omega, by simp [hxl], (fun h => by simp at h), hv, ri, hN, TokAt.new (j := X.length + 1) (by simp), st_keep' (by simp [Entry.av, Entry.c]) (by simp [Entry.av, Entry.c])⟩
    · have hjr : ∀ c, (X ++ c)[j]? = some (.tail 67 3) := fun c => by rw [List.getElem?_append_left (List.getElem?_eq_some_iff.1 hj).1]; exact hj
      have hjs : ∀ c v, (X ++ c).set j v = X.set j v ++ c := fun c v => List.set_append_left _ _ (List.getElem?_eq_some_iff.1 hj).1
      repeat (first | ((first | refine zd ?_ | refine zx ?_ | refine zk ?_ | refine zl ?_ | refine zr ?_); refine zq ?_) | refine zs ?_ | refine zh (by simp -implicitDefEqProofs (disch := (first | omega | (simp; done) | fail)) [if_pos, if_neg, wrap_i64, tmod_pos, tdiv_pos, Int.toNat_add, hN, getN hN, setN hN, getN0 hN, setN0 hN, hu, hx2, hx3, hjr, hjs]; rfl) ?_ | refine zb ?_ | refine zo ?_ | refine zt ?_ | refine zf ?_)
      exact ⟨n2 - (i + 1), by omega, i + 1, xs ++ [⟨p1, p2, p3⟩], _, h', X.set j .dead ++ [.cells [.str p1, .str p2, iv p3], .tail 67 3], .own (N + (X.length + 4)), rfl, by omega, by simp [hxl], (fun h => by simp at h), hv, ri, hN, TokAt.new (j := X.length + 1) (by simp), st_keep' (by simp [Entry.av, Entry.c]) (by simp [Entry.av, Entry.c])⟩
  rintro st' ⟨i', paths, sb, h2', X2, tok2, hi', hft', va', hie', ri2, hN2, hle⟩
  refine awp_le hle ?_
  clear hle ri hN
  have ri := ri2
  have hN := hN2
  clear ri2 hN2
  have vd2 := VS.done vn2 hi' va' hie'
  clear va' hie' vn2 hi'
  have vs2 := vs1.seq2 vd2
  clear vs1 vd2
  repeat (first | ((first | refine zd ?_ | refine zx ?_ | refine zk ?_ | refine zl ?_ | refine zr ?_); refine zq ?_) | refine zs ?_ | refine zh (by simp -implicitDefEqProofs (disch := (first | omega | (simp; done) | fail)) [if_pos, if_neg, wrap_i64, tmod_pos, tdiv_pos, Int.toNat_add, hN, getN hN, setN hN, getN0 hN, setN0 hN]; rfl) ?_ | refine zb ?_ | refine zo ?_ | refine zt ?_ | refine zf ?_)
  refine goes_callS (callable_of Tryz.func65) (by simp -implicitDefEqProofs (disch := (first | omega | (simp; done) | fail)) [if_pos, if_neg, wrap_i64, tmod_pos, tdiv_pos, Int.toNat_add, nv] <;> first | rfl | omega) _ (ilist_ok.at_ hB ri) ?_
  rintro _ _ ⟨⟨n3, rfl, vn3⟩, h', rfl, hl', ri2⟩
  clear ri
  have ri := ri2
  replace hN := hl'.trans hN
  clear ri2 hl'
  refine goes_eq (by simp -implicitDefEqProofs (disch := (first | omega | (simp; done) | fail)) [if_pos, if_neg, wrap_i64, tmod_pos, tdiv_pos, Int.toNat_add, hN, getN hN, setN hN, getN0 hN, setN0 hN, nv]; rfl) ?_
  refine goes_done ?_
  repeat (first | ((first | refine zd ?_ | refine zx ?_ | refine zk ?_ | refine zl ?_ | refine zr ?_); refine zq ?_) | refine zs ?_ | refine zh (by simp -implicitDefEqProofs (disch := (first | omega | (simp; done) | fail)) [if_pos, if_neg, wrap_i64, tmod_pos, tdiv_pos, Int.toNat_add, hN, getN hN, setN hN, getN0 hN, setN0 hN]; rfl) ?_ | refine zb ?_ | refine zo ?_ | refine zt ?_ | refine zf ?_)
  refine awp_cut_block (fun st' => ∃ (i : Nat) (xs : List Sess) (st2 : St) (h2 X : AHeap) (tok : Tok), i ≤ n3 ∧ (xs = [] → tok = .full) ∧ VS (rdN rdSess i) (runT rdSize sb) xs st2 ∧ (i = n3 ∨ ∃ e, st2 = .error e) ∧ RI h rid B st2 h2 ∧ h2.length = N ∧ st'.le ⟨Tryz.f43.ntmps, [(1, .ref [.ptr rid 0] 0), (2, .ptr (N + 1) 0), (3, .ptr (N + 2) 0)], h2 ++ (.dead :: .cells [iv 0, .list [] .full, .list [] .full, .list [] .full] :: .cells [iv x1, .list (nodes.map iv) tok1, .list (paths.map Entry.av) tok2, .list (xs.map Sess.fv) tok] :: X)⟩) ?_ ?_
  · refine awp_loop (fun z st => ∃ (i : Nat) (xs : List Sess) (st2 : St) (h2 X : AHeap) (tok : Tok), z = n3 - i ∧ i ≤ n3 ∧ xs.length = i ∧ (xs = [] → tok = .full) ∧ VS (rdN rdSess i) (runT rdSize sb) xs st2 ∧ RI h rid B st2 h2 ∧ h2.length = N ∧ TokAt N 3 X 71 6 tok ∧ st.le ⟨Tryz.f43.ntmps, [(1, .ref [.ptr rid 0] 0), (2, .ptr (N + 1) 0), (3, .ptr (N + 2) 0), (4, .int .i64 (n3 : Nat)), (8, .int .i64 (i : Nat))], h2 ++ (.dead :: .cells [iv 0, .list [] .full, .list [] .full, .list [] .full] :: .cells [iv x1, .list (nodes.map iv) tok1, .list (paths.map Entry.av) tok2, .list (xs.map Sess.fv) tok] :: X)⟩) n3 ?_ ?_
    · exact ⟨0, [], _, h', X2, .full, rfl, Nat.zero_le _, rfl, fun _ => rfl, VS.none _ _, ri, hN, .full, st_keep' (by simp []) (by simp [])⟩
    rintro z st ⟨i, xs, st2, h2, X, tok, rfl, hi, hxl, hft, va, ri2, hN2, ht, hle⟩
    refine awp_le hle ?_
    clear hle ri hN
    have ri := ri2
    have hN := hN2
    clear ri2 hN2
    by_cases hin : i = n3
    · subst hin
      repeat (first | ((first | refine zd ?_ | refine zx ?_ | refine zk ?_ | refine zl ?_ | refine zr ?_); refine zq ?_) | refine zs ?_ | refine zh (by simp -implicitDefEqProofs (disch := (first | omega | (simp; done) | fail)) [if_pos, if_neg, wrap_i64, tmod_pos, tdiv_pos, Int.toNat_add, hN, getN hN, setN hN, getN0 hN, setN0 hN]; rfl) ?_ | refine zb ?_ | refine zo ?_ | refine zt ?_ | refine zf ?_)
      exact ⟨i, xs, st2, h2, X, tok, Nat.le_refl _, hft, va, .inl rfl, ri, hN, st_keep' (by simp []) (by simp [])⟩
    have q1 : (i : Int) < (n3 : Int) := by omega
    obtain ⟨a, e, hg, ha, hs⟩ := ri.getl
    unfold rdr at hg
    rcases st2 with e' | l
    · obtain ⟨he, rfl⟩ := hs
      have q2 : ((e : Int) == 0) = false := by simp; omega
      repeat (first | ((first | refine zd ?_ | refine zx ?_ | refine zk ?_ | refine zl ?_ | refine zr ?_); refine zq ?_) | refine zs ?_ | refine zh (by simp -implicitDefEqProofs (disch := (first | omega | (simp; done) | fail)) [if_pos, if_neg, wrap_i64, tmod_pos, tdiv_pos, Int.toNat_add, hN, getN hN, setN hN, getN0 hN, setN0 hN, hg, q1, q2]; rfl) ?_ | refine zb ?_ | refine zo ?_ | refine zt ?_ | refine zf ?_)
      exact ⟨i, xs, _, h2, X, tok, hi, hft, va, .inr ⟨_, rfl⟩, ri, hN, st_keep' (by simp []) (by simp [])⟩
    obtain ⟨rfl, _⟩ := hs
    have hg : ∀ l : AHeap, (h2 ++ l)[rid]? = some (.cells [.str B, .int .i64 (a : Nat), .int .i64 0]) := hg
    repeat (first | ((first | refine zd ?_ | refine zx ?_ | refine zk ?_ | refine zl ?_ | refine zr ?_); refine zq ?_) | refine zs ?_ | refine zh (by simp -implicitDefEqProofs (disch := (first | omega | (simp; done) | fail)) [if_pos, if_neg, wrap_i64, tmod_pos, tdiv_pos, Int.toNat_add, hN, getN hN, setN hN, getN0 hN, setN0 hN, hg, q1]; rfl) ?_ | refine zb ?_ | refine zo ?_ | refine zt ?_ | refine zf ?_)
    clear hg
    have hu := fv_uni xs
    have hx1 := isz_le vn3 va.2
    have hx2 : (xs.length + 1) * 72 ≤ 140737488355328 := by omega
    have hx3 : xs.length ≤ 140737488355327 := by omega
    refine goes_callS (callable_of Tryz.func42) (by simp -implicitDefEqProofs (disch := (first | omega | (simp; done) | fail)) [if_pos, if_neg, wrap_i64, tmod_pos, tdiv_pos, Int.toNat_add] <;> first | rfl | omega) _ (inumi_ok.at_ hB ri) ?_
    rintro _ _ ⟨⟨s1, rfl, vs1⟩, h', rfl, hl', ri2⟩
    clear ri
    have ri := ri2
    replace hN := hl'.trans hN
    clear ri2 hl'
    refine goes_eq (by simp -implicitDefEqProofs (disch := (first | omega | (simp; done) | fail)) [if_pos, if_neg, wrap_i64, tmod_pos, tdiv_pos, Int.toNat_add, hN, getN hN, setN hN, getN0 hN, setN0 hN]; rfl) ?_
    repeat (first | ((first | refine zd ?_ | refine zx ?_ | refine zk ?_ | refine zl ?_ | refine zr ?_); refine zq ?_) | refine zs ?_ | refine zh (by simp -implicitDefEqProofs (disch := (first | omega | (simp; done) | fail)) [if_pos, if_neg, wrap_i64, tmod_pos, tdiv_pos, Int.toNat_add, hN, getN hN, setN hN, getN0 hN, setN0 hN]; rfl) ?_ | refine zb ?_ | refine zo ?_ | refine zt ?_ | refine zf ?_)
    refine goes_callS (callable_of Tryz.func42) (by simp -implicitDefEqProofs (disch := (first | omega | (simp; done) | fail)) [if_pos, if_neg, wrap_i64, tmod_pos, tdiv_pos, Int.toNat_add] <;> first | rfl | omega) _ (inumi_ok.at_ hB ri) ?_
    rintro _ _ ⟨⟨s2, rfl, vs2⟩, h', rfl, hl', ri2⟩
    clear ri
    have ri := ri2
    replace hN := hl'.trans hN
    clear ri2 hl'
    refine goes_eq (by simp -implicitDefEqProofs (disch := (first | omega | (simp; done) | fail)) [if_pos, if_neg, wrap_i64, tmod_pos, tdiv_pos, Int.toNat_add, hN, getN hN, setN hN, getN0 hN, setN0 hN]; rfl) ?_
    repeat (first | ((first | refine zd ?_ | refine zx ?_ | refine zk ?_ | refine zl ?_ | refine zr ?_); refine zq ?_) | refine zs ?_ | refine zh (by simp -implicitDefEqProofs (disch := (first | omega | (simp; done) | fail)) [if_pos, if_neg, wrap_i64, tmod_pos, tdiv_pos, Int.toNat_add, hN, getN hN, setN hN, getN0 hN, setN0 hN]; rfl) ?_ | refine zb ?_ | refine zo ?_ | refine zt ?_ | refine zf ?_)
    refine goes_callS (callable_of Tryz.func42) (by simp -implicitDefEqProofs (disch := (first | omega | (simp; done) | fail)) [if_pos, if_neg, wrap_i64, tmod_pos, tdiv_pos, Int.toNat_add] <;> first | rfl | omega) _ (inumi_ok.at_ hB ri) ?_
    rintro _ _ ⟨⟨s3, rfl, vs3⟩, h', rfl, hl', ri2⟩
    clear ri
    have ri := ri2
    replace hN := hl'.trans hN
    clear ri2 hl'
    refine goes_eq (by simp -implicitDefEqProofs (disch := (first | omega | (simp; done) | fail)) [if_pos, if_neg, wrap_i64, tmod_pos, tdiv_pos, Int.toNat_add, hN, getN hN, setN hN, getN0 hN, setN0 hN]; rfl) ?_
    repeat (first | ((first | refine zd ?_ | refine zx ?_ | refine zk ?_ | refine zl ?_ | refine zr ?_); refine zq ?_) | refine zs ?_ | refine zh (by simp -implicitDefEqProofs (disch := (first | omega | (simp; done) | fail)) [if_pos, if_neg, wrap_i64, tmod_pos, tdiv_pos, Int.toNat_add, hN, getN hN, setN hN, getN0 hN, setN0 hN]; rfl) ?_ | refine zb ?_ | refine zo ?_ | refine zt ?_ | refine zf ?_)
    refine goes_callS (callable_of Tryz.func66) (by simp -implicitDefEqProofs (disch := (first | omega | (simp; done) | fail)) [if_pos, if_neg, wrap_i64, tmod_pos, tdiv_pos, Int.toNat_add] <;> first | rfl | omega) _ (itexti_ok.at_ hB ri) ?_
    rintro _ _ ⟨⟨s4, rfl, vs4⟩, h', rfl, hl', ri2⟩
    clear ri
    have ri := ri2
    replace hN := hl'.trans hN
    clear ri2 hl'
    refine goes_eq (by simp -implicitDefEqProofs (disch := (first | omega | (simp; done) | fail)) [if_pos, if_neg, wrap_i64, tmod_pos, tdiv_pos, Int.toNat_add, hN, getN hN, setN hN, getN0 hN, setN0 hN]; rfl) ?_
    repeat (first | ((first | refine zd ?_ | refine zx ?_ | refine zk ?_ | refine zl ?_ | refine zr ?_); refine zq ?_) | refine zs ?_ | refine zh (by simp -implicitDefEqProofs (disch := (first | omega | (simp; done) | fail)) [if_pos, if_neg, wrap_i64, tmod_pos, tdiv_pos, Int.toNat_add, hN, getN hN, setN hN, getN0 hN, setN0 hN]; rfl) ?_ | refine zb ?_ | refine zo ?_ | refine zt ?_ | refine zf ?_)
    refine goes_callS (callable_of Tryz.func42) (by simp -implicitDefEqProofs (disch := (first | omega | (simp; done) | fail)) [if_pos, if_neg, wrap_i64, tmod_pos, tdiv_pos, Int.toNat_add] <;> first | rfl | omega) _ (inumi_ok.at_ hB ri) ?_
    rintro _ _ ⟨⟨s5, rfl, vs5⟩, h', rfl, hl', ri2⟩
    clear ri
    have ri := ri2
    replace hN := hl'.trans hN
    clear ri2 hl'
    refine goes_eq (by simp -implicitDefEqProofs (disch := (first | omega | (simp; done) | fail)) [if_pos, if_neg, wrap_i64, tmod_pos, tdiv_pos, Int.toNat_add, hN, getN hN, setN hN, getN0 hN, setN0 hN]; rfl) ?_
    repeat (first | ((first | refine zd ?_ | refine zx ?_ | refine zk ?_ | refine zl ?_ | refine zr ?_); refine zq ?_) | refine zs ?_ | refine zh (by simp -implicitDefEqProofs (disch := (first | omega | (simp; done) | fail)) [if_pos, if_neg, wrap_i64, tmod_pos, tdiv_pos, Int.toNat_add, hN, getN hN, setN hN, getN0 hN, setN0 hN]; rfl) ?_ | refine zb ?_ | refine zo ?_ | refine zt ?_ | refine zf ?_)
    refine goes_callS (callable_of Tryz.func65) (by simp -implicitDefEqProofs (disch := (first | omega | (simp; done) | fail)) [if_pos, if_neg, wrap_i64, tmod_pos, tdiv_pos, Int.toNat_add, nv] <;> first | rfl | omega) _ (ilist_ok.at_ hB ri) ?_
    rintro _ _ ⟨⟨m, rfl, vm⟩, h', rfl, hl', ri2⟩
    clear ri
    have ri := ri2
    replace hN := hl'.trans hN
    clear ri2 hl'
    refine goes_eq (by simp -implicitDefEqProofs (disch := (first | omega | (simp; done) | fail)) [if_pos, if_neg, wrap_i64, tmod_pos, tdiv_pos, Int.toNat_add, hN, getN hN, setN hN, getN0 hN, setN0 hN, nv]; rfl) ?_
    have vq := ((VS.nop.seq vs3).seq vs4).seq vs5
    generalize hsc : runT rdNum (runT rdText (runT rdNum (runT rdNum (runT rdNum (.ok l))))) = sc at *
    have riO := ri
    have hNO := hN
    obtain ⟨XX, hXX⟩ : ∃ XX : AHeap, XX = .dead :: .cells [iv 0, .list [] .full, .list [] .full, .list [] .full] :: .cells [iv x1, .list (nodes.map iv) tok1, .list (paths.map Entry.av) tok2, .list (xs.map Sess.fv) tok] :: X := ⟨_, rfl⟩
    obtain ⟨h', hP⟩ : ∃ P, P = h' ++ XX := ⟨_, rfl⟩
    have hPl : h'.length = N + (X.length + 1 + 1 + 1) := by rw [hP, hXX]; simp [hN]
    obtain ⟨M, hM⟩ : ∃ M, M = N + (X.length + 1 + 1 + 1) := ⟨_, rfl⟩
    rw [← hM] at hPl ⊢
    simp only [← List.cons_append, ← List.append_assoc]
    rw [← hXX, ← hP]
    have ri : RI h' rid B (runT rdSize sc) h' := by rw [hP]; exact ri.now _
    have hN := hPl
    clear hPl
    obtain ⟨io, hio⟩ : ∃ io, io = i := ⟨_, rfl⟩
    rw [← hio]
    refine goes_done ?_
    repeat (first | ((first | refine zd ?_ | refine zx ?_ | refine zk ?_ | refine zl ?_ | refine zr ?_); refine zq ?_) | refine zs ?_ | refine zh (by simp -implicitDefEqProofs (disch := (first | omega | (simp; done) | fail)) [if_pos, if_neg, wrap_i64, tmod_pos, tdiv_pos, Int.toNat_add, hN, getN hN, setN hN, getN0 hN, setN0 hN]; rfl) ?_ | refine zb ?_ | refine zo ?_ | refine zt ?_ | refine zf ?_)
    refine awp_cut_block (fun st' => ∃ (i : Nat) (xs : List (List UInt8)) (st2 : St) (h2 X : AHeap) (tok : Tok), i ≤ m ∧ (xs = [] → tok = .full) ∧ VS (rdN rdT1 i) (runT rdSize sc) xs st2 ∧ (i = m ∨ ∃ e, st2 = .error e) ∧ RI h' rid B st2 h2 ∧ h2.length = M ∧ st'.le ⟨Tryz.f43.ntmps, [(1, .ref [.ptr rid 0] 0), (2, .ptr (N + 1) 0), (3, .ptr (N + 2) 0), (4, .int .i64 (n3 : Nat)), (8, .int .i64 (io : Nat)), (9, .ptr M 0)], h2 ++ (.cells [iv s1, iv s2, iv s3, .str s4, iv s5, .list (xs.map AV.str) tok] :: X)⟩) ?_ ?_
    · refine awp_loop (fun z st => ∃ (i : Nat) (xs : List (List UInt8)) (st2 : St) (h2 X : AHeap) (tok : Tok), z = m - i ∧ i ≤ m ∧ xs.length = i ∧ (xs = [] → tok = .full) ∧ VS (rdN rdT1 i) (runT rdSize sc) xs st2 ∧ RI h' rid B st2 h2 ∧ h2.length = M ∧ TokAt M 1 X 9 1 tok ∧ st.le ⟨Tryz.f43.ntmps, [(1, .ref [.ptr rid 0] 0), (2, .ptr (N + 1) 0), (3, .ptr (N + 2) 0), (4, .int .i64 (n3 : Nat)), (8, .int .i64 (io : Nat)), (9, .ptr M 0), (10, .int .i64 (m : Nat)), (11, .int .i64 (i : Nat))], h2 ++ (.cells [iv s1, iv s2, iv s3, .str s4, iv s5, .list (xs.map AV.str) tok] :: X)⟩) m ?_ ?_
      · exact ⟨0, [], _, h', [], .full, rfl, Nat.zero_le _, rfl, fun _ => rfl, VS.none _ _, ri, hN, .full, st_keep' (by simp []) (by simp [])⟩
      rintro z st ⟨i, xs, st2, h2, X, tok, rfl, hi, hxl, hft, va, ri2, hN2, ht, hle⟩
      refine awp_le hle ?_
      clear hle ri hN
      have ri := ri2
      have hN := hN2
      clear ri2 hN2
      by_cases hin : i = m
      · subst hin
        repeat (first | ((first | refine zd ?_ | refine zx ?_ | refine zk ?_ | refine zl ?_ | refine zr ?_); refine zq ?_) | refine zs ?_ | refine zh (by simp -implicitDefEqProofs (disch := (first | omega | (simp; done) | fail)) [if_pos, if_neg, wrap_i64, tmod_pos, tdiv_pos, Int.toNat_add, hN, getN hN, setN hN, getN0 hN, setN0 hN]; rfl) ?_ | refine zb ?_ | refine zo ?_ | refine zt ?_ | refine zf ?_)
        exact ⟨i, xs, st2, h2, X, tok, Nat.le_refl _, hft, va, .inl rfl, ri, hN, st_keep' (by simp []) (by simp [])⟩
      have q1 : (i : Int) < (m : Int) := by omega
      obtain ⟨a, e, hg, ha, hs⟩ := ri.getl
      unfold rdr at hg
      rcases st2 with e' | l
      · obtain ⟨he, rfl⟩ := hs
        have q2 : ((e : Int) == 0) = false := by simp; omega
        repeat (first | ((first | refine zd ?_ | refine zx ?_ | refine zk ?_ | refine zl ?_ | refine zr ?_); refine zq ?_) | refine zs ?_ | refine zh (by simp -implicitDefEqProofs (disch := (first | omega | (simp; done) | fail)) [if_pos, if_neg, wrap_i64, tmod_pos, tdiv_pos, Int.toNat_add, hN, getN hN, setN hN, getN0 hN, setN0 hN, hg, q1, q2]; rfl) ?_ | refine zb ?_ | refine zo ?_ | refine zt ?_ | refine zf ?_)
        exact ⟨i, xs, _, h2, X, tok, hi, hft, va, .inr ⟨_, rfl⟩, ri, hN, st_keep' (by simp []) (by simp [])⟩
      obtain ⟨rfl, _⟩ := hs
      have hg : ∀ l : AHeap, (h2 ++ l)[rid]? = some (.cells [.str B, .int .i64 (a : Nat), .int .i64 0]) := hg
      repeat (first | ((first | refine zd ?_ | refine zx ?_ | refine zk ?_ | refine zl ?_ | refine zr ?_); refine zq ?_) | refine zs ?_ | refine zh (by simp -implicitDefEqProofs (disch := (first | omega | (simp; done) | fail)) [if_pos, if_neg, wrap_i64, tmod_pos, tdiv_pos, Int.toNat_add, hN, getN hN, setN hN, getN0 hN, setN0 hN, hg, q1]; rfl) ?_ | refine zb ?_ | refine zo ?_ | refine zt ?_ | refine zf ?_)
      clear hg
      have hu := str_uni xs
      have hx1 := isz_le vm va.2
      have hx2 : (xs.length + 1) * 16 ≤ 140737488355328 := by omega
      have hx3 : xs.length ≤ 140737488355327 := by omega
      rcases ht with rfl | ⟨j, rfl, hj⟩
      · refine awp_draw (.q 0 (.q 1 (.q 3 (.two 2 4 (.a 4 (.a 5 (.a 6 (.q 7 (.q 8 (.a 9 (.done))))))) (.two 2 5 (.a 5 (.a 6 (.q 7 (.q 8 (.a 9 (.done)))))) (.a 2 (.a 6 (.q 7 (.q 8 (.a 9 (.done))))))))))) (by kernel_rfl) (by kernel_rfl) (tree_start (goesT_eq (by simp -implicitDefEqProofs (disch := (first | omega | (simp; done) | fail)) [if_pos, if_neg, wrap_i64, tmod_pos, tdiv_pos, Int.toNat_add, hN, getN hN, setN hN, getN0 hN, setN0 hN]; rfl) ?_))
        repeat' (first | (refine goesT_two (goesT_eq (by simp -implicitDefEqProofs (disch := (first | omega | (simp; done) | fail)) [if_pos, if_neg, wrap_i64, tmod_pos, tdiv_pos, Int.toNat_add, hN, getN hN, setN hN, getN0 hN, setN0 hN, hu, hx2, hx3]; rfl) ?_) (goesT_eq (by simp -implicitDefEqProofs (disch := (first | omega | (simp; done) | fail)) [if_pos, if_neg, wrap_i64, tmod_pos, tdiv_pos, Int.toNat_add, hN, getN hN, setN hN, getN0 hN, setN0 hN, hu, hx2, hx3]; rfl) ?_)) | (refine goesT_callS (callable_of Tryz.func66) (by simp -implicitDefEqProofs (disch := (first | omega | (simp; done) | fail)) [if_pos, if_neg, wrap_i64, tmod_pos, tdiv_pos, Int.toNat_add] <;> first | rfl | omega) _ (itexti_ok.at_ hB ri) ?_; rintro _ _ ⟨⟨x, rfl, vx⟩, h', rfl, hl', ri2⟩; clear ri; have ri := ri2; replace hN := hl'.trans hN; clear ri2 hl'; refine goesT_eq (by simp -implicitDefEqProofs (disch := (first | omega | (simp; done) | fail)) [if_pos, if_neg, wrap_i64, tmod_pos, tdiv_pos, Int.toNat_add, hN, getN hN, setN hN, getN0 hN, setN0 hN, hu, hx2, hx3]; rfl) ?_))
        all_goals
          refine goesT_done ?_
          (try simp only [vq, if_true, reduceIte, Nat.reduceEqDiff, reduceCtorEq])
          repeat (first | ((first | refine zd ?_ | refine zx ?_ | refine zk ?_ | refine zl ?_ | refine zr ?_); refine zq ?_) | refine zs ?_ | refine zg ?_ | refine zb ?_ | refine zo ?_ | refine zt ?_ | refine zf ?_)
          exact ⟨m - (i + 1), by omega, i + 1, xs ++ [x], _, h', X ++ [.tail 9 1], .own (M + (X.length + 1)), rfl, by omega, by simp [hxl], (fun h => by simp at h), va.next2 t1_nil ((VS.nop.seq vx).as _), ri, hN, .new (by simp), st_keep' (by simp []) (by simp [])⟩
      · refine awp_draw (.q 0 (.q 1 (.q 3 (.two 2 4 (.a 4 (.a 5 (.a 6 (.q 7 (.q 8 (.a 9 (.done))))))) (.two 2 5 (.a 5 (.a 6 (.q 7 (.q 8 (.a 9 (.done)))))) (.a 2 (.a 6 (.q 7 (.q 8 (.a 9 (.done))))))))))) (by kernel_rfl) (by kernel_rfl) (tree_start (goesT_eq (by simp -implicitDefEqProofs (disch := (first | omega | (simp; done) | fail)) [if_pos, if_neg, wrap_i64, tmod_pos, tdiv_pos, Int.toNat_add, hN, getN hN, setN hN, getN0 hN, setN0 hN]; rfl) ?_))
        repeat' (first | (refine goesT_two (goesT_eq (by simp -implicitDefEqProofs (disch := (first | omega | (simp; done) | fail)) [if_pos, if_neg, wrap_i64, tmod_pos, tdiv_pos, Int.toNat_add, hN, getN hN, setN hN, getN0 hN, setN0 hN, hj, hu, hx2, hx3]; rfl) ?_) (goesT_eq (by simp -implicitDefEqProofs (disch := (first | omega | (simp; done) | fail)) [if_pos, if_neg, wrap_i64, tmod_pos, tdiv_pos, Int.toNat_add, hN, getN hN, setN hN, getN0 hN, setN0 hN, hj, hu, hx2, hx3]; rfl) ?_)) | (refine goesT_callS (callable_of Tryz.func66) (by simp -implicitDefEqProofs (disch := (first | omega | (simp; done) | fail)) [if_pos, if_neg, wrap_i64, tmod_pos, tdiv_pos, Int.toNat_add] <;> first | rfl | omega) _ (itexti_ok.at_ hB ri) ?_; rintro _ _ ⟨⟨x, rfl, vx⟩, h', rfl, hl', ri2⟩; clear ri; have ri := ri2; replace hN := hl'.trans hN; clear ri2 hl'; refine goesT_eq (by simp -implicitDefEqProofs (disch := (first | omega | (simp; done) | fail)) [if_pos, if_neg, wrap_i64, tmod_pos, tdiv_pos, Int.toNat_add, hN, getN hN, setN hN, getN0 hN, setN0 hN, hj, hu, hx2, hx3]; rfl) ?_))
        all_goals
          refine goesT_done ?_
          (try simp only [vq, if_true, reduceIte, Nat.reduceEqDiff, reduceCtorEq])
          repeat (first | ((first | refine zd ?_ | refine zx ?_ | refine zk ?_ | refine zl ?_ | refine zr ?_); refine zq ?_) | refine zs ?_ | refine zg ?_ | refine zb ?_ | refine zo ?_ | refine zt ?_ | refine zf ?_)
          exact ⟨m - (i + 1), by omega, i + 1, xs ++ [x], _, h', X.set j .dead ++ [.tail 9 1], .own (M + (X.length + 1)), rfl, by omega, by simp [hxl], (fun h => by simp at h), va.next2 t1_nil ((VS.nop.seq vx).as _), ri, hN, .new (by simp), st_keep' (by simp []) (by simp [])⟩
    rintro st' ⟨i', names, sd, h2', Y, tokn, hi', hft', va', hie', ri2, hN2, hle⟩
    refine awp_le hle ?_
    clear hle ri hN
    have ri := ri2
    have hN := hN2
    clear ri2 hN2
    have vdn := VS.done vm hi' va' hie'
    clear va' hie' vm hi'
    have vr : VS rdReply _ ⟨s3, s4, s5, names⟩ _ := (vq.seq2 vdn).as _
    have ve : VS rdSess _ ⟨s1, s2, ⟨s3, s4, s5, names⟩⟩ _ := (((VS.nop.seq vs1).seq vs2).seq2 vr).as _
    have hv := va.next2 sess_nil ve
    clear hN
    obtain ⟨h3, rfl, hl3, ri3⟩ := riO.step (hP ▸ ri)
    have hN : h3.length = N := hl3.trans hNO
    clear ri
    have ri := ri3
    clear ri3 riO hNO hl3 va vq ve vr vdn vs1 vs2 vs3 vs4 vs5
    subst hio
    subst hM
    subst hXX
    simp only [List.append_assoc, List.cons_append]
    rcases names with _ | ⟨na, nr⟩
    · obtain rfl := hft' rfl
      rcases ht with rfl | ⟨j, rfl, hj⟩
      · repeat (first | ((first | refine zd ?_ | refine zx ?_ | refine zk ?_ | refine zl ?_ | refine zr ?_); refine zq ?_) | refine zs ?_ | refine zh (by simp -implicitDefEqProofs (disch := (first | omega | (simp; done) | fail)) [if_pos, if_neg, wrap_i64, tmod_pos, tdiv_pos, Int.toNat_add, hN, getN hN, setN hN, getN0 hN, setN0 hN, hu, hx2, hx3]; rfl) ?_ | refine zb ?_ | refine zo ?_ | refine zt ?_ | refine zf ?_)
        exact ⟨n3 - (io + 1), by omega, io + 1, xs ++ [⟨s1, s2, ⟨s3, s4, s5, []⟩⟩], _, h3, X ++ .cells [iv s1, iv s2, iv s3, .str s4, iv s5, .list (([] : List (List UInt8)).map .str) .full] :: (Y ++ [.tail 71 6]), .own (N + (X.length + (Y.length + 1) + 3)), rfl, by omega, by simp [hxl], (fun h => by simp at h), hv, ri, hN, TokAt.new (j := X.length + (Y.length + 1)) (by simp), st_keep' (by simp [Sess.fv, nmV]) (by simp [Sess.fv, nmV])⟩
      · have hjr : ∀ c, (X ++ c)[j]? = some (.tail 71 6) := fun c => by rw [List.getElem?_append_left (List.getElem?_eq_some_iff.1 hj).1]; exact hj
        have hjs : ∀ c v, (X ++ c).set j v = X.set j v ++ c := fun c v => List.set_append_left _ _ (List.getElem?_eq_some_iff.1 hj).1
        repeat (first | ((first | refine zd ?_ | refine zx ?_ | refine zk ?_ | refine zl ?_ | refine zr ?_); refine zq ?_) | refine zs ?_ | refine zh (by simp -implicitDefEqProofs (disch := (first | omega | (simp; done) | fail)) [if_pos, if_neg, wrap_i64, tmod_pos, tdiv_pos, Int.toNat_add, hN, getN hN, setN hN, getN0 hN, setN0 hN, hu, hx2, hx3, hjr, hjs]; rfl) ?_ | refine zb ?_ | refine zo ?_ | refine zt ?_ | refine zf ?_)
        exact ⟨n3 - (io + 1), by omega, io + 1, xs ++ [⟨s1, s2, ⟨s3, s4, s5, []⟩⟩], _, h3, X.set j .dead ++ .cells [iv s1, iv s2, iv s3, .str s4, iv s5, .list (([] : List (List UInt8)).map .str) .full] :: (Y ++ [.tail 71 6]), .own (N + (X.length + (Y.length + 1) + 3)), rfl, by omega, by simp [hxl], (fun h => by simp at h), hv, ri, hN, TokAt.new (j := X.length + (Y.length + 1)) (by simp), st_keep' (by simp [Sess.fv, nmV]) (by simp [Sess.fv, nmV])⟩
    · rcases ht with rfl | ⟨j, rfl, hj⟩
      · repeat (first | ((first | refine zd ?_ | refine zx ?_ | refine zk ?_ | refine zl ?_ | refine zr ?_); refine zq ?_) | refine zs ?_ | refine zh (by simp -implicitDefEqProofs (disch := (first | omega | (simp; done) | fail)) [if_pos, if_neg, wrap_i64, tmod_pos, tdiv_pos, Int.toNat_add, hN, getN hN, setN hN, getN0 hN, setN0 hN, hu, hx2, hx3]; rfl) ?_ | refine zb ?_ | refine zo ?_ | refine zt ?_ | refine zf ?_)
        exact ⟨n3 - (io + 1), by omega, io + 1, xs ++ [⟨s1, s2, ⟨s3, s4, s5, na :: nr⟩⟩], _, h3, X ++ .cells [iv s1, iv s2, iv s3, .str s4, iv s5, .list ((na :: nr).map .str) tokn] :: (Y ++ [.tail 71 6]), .own (N + (X.length + (Y.length + 1) + 3)), rfl, by omega, by simp [hxl], (fun h => by simp at h), hv, ri, hN, TokAt.new (j := X.length + (Y.length + 1)) (by simp), st_keep' (by simp [Sess.fv, nmV]) (by simp [Sess.fv, nmV])⟩
      · have hjr : ∀ c, (X ++ c)[j]? = some (.tail 71 6) := fun c => by rw [List.getElem?_append_left (List.getElem?_eq_some_iff.1 hj).1]; exact hj
        have hjs : ∀ c v, (X ++ c).set j v = X.set j v ++ c := fun c v => List.set_append_left _ _ (List.getElem?_eq_some_iff.1 hj).1
        repeat (first | ((first | refine zd ?_ | refine zx ?_ | refine zk ?_ | refine zl ?_ | refine zr ?_); refine zq ?_) | refine zs ?_ | refine zh (by simp -implicitDefEqProofs (disch := (first | omega | (simp; done) | fail)) [if_pos, if_neg, wrap_i64, tmod_pos, tdiv_pos, Int.toNat_add, hN, getN hN, setN hN, getN0 hN, setN0 hN, hu, hx2, hx3, hjr, hjs]; rfl) ?_ | refine zb ?_ | refine zo ?_ | refine zt ?_ | refine zf ?_)
        exact ⟨n3 - (io + 1), by omega, io + 1, xs ++ [⟨s1, s2, ⟨s3, s4, s5, na :: nr⟩⟩], _, h3, X.set j .dead ++ .cells [iv s1, iv s2, iv s3, .str s4, iv s5, .list ((na :: nr).map .str) tokn] :: (Y ++ [.tail 71 6]), .own (N + (X.length + (Y.length + 1) + 3)), rfl, by omega, by simp [hxl], (fun h => by simp at h), hv, ri, hN, TokAt.new (j := X.length + (Y.length + 1)) (by simp), st_keep' (by simp [Sess.fv, nmV]) (by simp [Sess.fv, nmV])⟩
  rintro st' ⟨i', sess, sd, h2', X3, tok3, hi', hft', va', hie', ri2, hN2, hle⟩
  refine awp_le hle ?_
  clear hle ri hN
  have ri := ri2
  have hN := hN2
  clear ri2 hN2
  have vd3 := VS.done vn3 hi' va' hie'
  clear va' hie' vn3 hi'
  have vs : VS rdSnap st ⟨x1, nodes, paths, sess⟩ sd := (vs2.seq2 vd3).as _
  repeat (first | ((first | refine zd ?_ | refine zx ?_ | refine zk ?_ | refine zl ?_ | refine zr ?_); refine zq ?_) | refine zs ?_ | refine zh (by simp -implicitDefEqProofs (disch := (first | omega | (simp; done) | fail)) [if_pos, if_neg, wrap_i64, tmod_pos, tdiv_pos, Int.toNat_add, hN, getN hN, setN hN, getN0 hN, setN0 hN]; rfl) ?_ | refine zb ?_ | refine zo ?_ | refine zt ?_ | refine zf ?_)
  first | refine body_ri ri (.inr rfl) (by simp -implicitDefEqProofs [hN, getN hN, setN hN, getN0 hN, setN0 hN, fv_s]; rfl) (by simp -implicitDefEqProofs [hN, getN hN, setN hN, getN0 hN, setN0 hN, fv_s]; rfl) (by simp) ?_ | refine body_ri ri (.inl rfl) (by simp -implicitDefEqProofs [hN, getN hN, setN hN, getN0 hN, setN0 hN, fv_s]; rfl) (by simp -implicitDefEqProofs [hN, getN hN, setN hN, getN0 hN, setN0 hN, fv_s]; rfl) (by simp) ?_
  exact ⟨⟨_, rfl, vs.1⟩, by rw [vs.2]; exact ri⟩
end Go.Proofs.YtdncoobpdllpkaaGreat.D

/- Bytes as messages, the document's reader: messages. -/
set_option linter.unusedVariables false
set_option linter.unusedSimpArgs false
set_option maxRecDepth 20000
namespace Go.Proofs.YtdncoobpdllpkaaGreat.D
open Go Go.Proofs.YtdncoobpdllpkaaGreat.V Go.Proofs.YtdncoobpdllpkaaGreat.N
theorem whole_end {α : Type} (f : Spec α) (d : α) (l : List UInt8) (nz : ∀ l, f l ≠ .error 0) : ((whole f d l).2 : Int) = endE (runT f (.ok l)) ∧ ((whole f d l).2 ≠ 0 → (whole f d l).1 = d) ∧ ((whole f d l).2 = 0 → ∃ p, f l = .ok p ∧ (whole f d l).1 = p.1) := by
  unfold whole
  cases hf : f l with
  | error e =>
    rw [run_err hf]
    exact ⟨rfl, fun _ => rfl, fun h => by simp only at h; subst h; exact absurd hf (nz l)⟩
  | ok p =>
    rw [run_ok hf]
    by_cases hp : p.2 = []
    · exact ⟨by simp [hp, endE], by simp [hp], fun _ => ⟨p, rfl, by simp [hp]⟩⟩
    · exact ⟨by simp [hp, endE], fun _ => by simp [hp], by simp [hp]⟩
end Go.Proofs.YtdncoobpdllpkaaGreat.D

/- Bytes as messages, the document's reader: records. -/
set_option linter.unusedVariables false
set_option linter.unusedSimpArgs false
set_option maxRecDepth 20000
namespace Go.Proofs.YtdncoobpdllpkaaGreat.D
open Go Go.Proofs.YtdncoobpdllpkaaGreat.V Go.Proofs.YtdncoobpdllpkaaGreat.N
theorem recA {b : List UInt8} {x1 : Int} {s : Snap} (v1 : Val rdNum (.ok b) x1) (hx : x1 = 1) (vs : Val rdSnap (runT rdNum (.ok b)) s) : VS rdRec (.ok b) ⟨true, .zero, .zero, s⟩ (runT rdSnap (runT rdNum (.ok b))) := by
  cases hn : rdNum b with
  | error e =>
    have hr : rdRec b = .error e := by simp [rdRec, hn]
    rw [run_err hn]
    exact ⟨fun l p h1 h2 => by injection h1 with h1; subst h1; rw [hr] at h2; exact absurd h2 (by simp), by rw [run_err hr]; rfl⟩
  | ok p =>
    have h1 := v1 b p rfl hn
    have hr : rdRec b = mapS (fun s => (⟨true, .zero, .zero, s⟩ : Rec)) rdSnap p.2 := by simp [rdRec, hn, ← h1, hx]
    rw [run_ok hn] at vs ⊢
    have := (VS.as (f := rdSnap) ⟨vs, rfl⟩ (fun s => (⟨true, .zero, .zero, s⟩ : Rec)))
    refine ⟨fun l q h1 h2 => ?_, ?_⟩
    · injection h1 with h1; subst h1; rw [hr] at h2; exact this.1 p.2 q rfl h2
    · rw [← this.2]; simp only [runT, hr]
theorem recB {b : List UInt8} {x1 : Int} {i : Iid} {n : Inst} {st' : St} (v1 : Val rdNum (.ok b) x1) (hx : x1 ≠ 1) (hx2 : ∀ l, runT rdNum (.ok b) = .ok l → ¬ 1 < x1) (vs : VS rdII (runT rdNum (.ok b)) (i, n) st') : VS rdRec (.ok b) ⟨false, i, n, .zero⟩ st' := by
  cases hn : rdNum b with
  | error e =>
    have hr : rdRec b = .error e := by simp [rdRec, hn]
    rw [run_err hn] at vs
    exact ⟨fun l p h1 h2 => by injection h1 with h1; subst h1; rw [hr] at h2; exact absurd h2 (by simp), by rw [run_err hr, ← vs.2]; rfl⟩
  | ok p =>
    have h1 := v1 b p rfl hn
    have h3 := hx2 p.2 (run_ok hn)
    have hr : rdRec b = mapS (fun q => (⟨false, q.1, q.2, .zero⟩ : Rec)) rdII p.2 := by simp [rdRec, hn, ← h1, hx, h3]
    rw [run_ok hn] at vs
    have := VS.as vs (fun q => (⟨false, q.1, q.2, .zero⟩ : Rec))
    refine ⟨fun l q h1 h2 => ?_, ?_⟩
    · injection h1 with h1; subst h1; rw [hr] at h2; exact this.1 p.2 q rfl h2
    · rw [← this.2]; simp only [runT, hr]
theorem dcut {P : Program} {E : Env P} {x y : Code} {Q : Post} {st : ASt} (J : ASt → Prop) (h1 : AWP E x (Post.then J Q) st) (h2 : ∀ s, J s → AWP E y Q s) : AWP E (.seq x y) Q st :=
  awp_seq (h1.mono fun e s hq => by
    cases e with
    | normal => exact h2 s hq
    | _ => exact hq)
theorem iget_ok (b : List UInt8) (hB : b.length ≤ 100000) (h : AHeap) : ACalls Tryz.prog 19 [.str b] h fun r h' => r = .tuple [.agg (whole rdRec .zero b).1.c, .int .i64 ((whole rdRec .zero b).2 : Nat)] ∧ h' = h := by
  refine acalls_of_awp Tryz.func19 rfl (by simp only [List.length_cons, List.length_nil]; decide) ?_
  simp only [params_cons, params_nil]
  refine awp_seq ?_
  refine zg ?_
  refine goes_done ?_
  (try simp only [vq, if_true, reduceIte, Nat.reduceEqDiff, reduceCtorEq])
  refine awp_seq ?_
  refine zg ?_
  refine goes_done ?_
  (try simp only [vq, if_true, reduceIte, Nat.reduceEqDiff, reduceCtorEq])
  refine awp_hard (id := h.length + 2) (by simp -implicitDefEqProofs; rfl) ?_
  simp -implicitDefEqProofs only [Slots.melt, AV.melt, Nat.add_left_cancel_iff, Nat.add_eq_left, Nat.left_eq_add, Nat.reduceEqDiff, reduceIte, Nat.succ_ne_self, Nat.one_ne_zero, Nat.zero_ne_one, List.set_append_right, List.set_append_left, Nat.sub_self, Nat.le_refl, Nat.add_sub_cancel_left, Nat.le_add_right, List.set_cons_zero, List.set_cons_succ]
  refine awp_seq ?_
  refine zg ?_
  refine goes_done ?_
  (try simp only [vq, if_true, reduceIte, Nat.reduceEqDiff, reduceCtorEq])
  rw [show ∀ (a b c d : AObj), h ++ [a, b, c, d] = (h ++ [a, b]) ++ [c, d] from fun a b c d => by simp]
  obtain ⟨h1, hh1⟩ : ∃ h1, h1 = h ++ [.cells (Rec.z false), .cells [.str b, iv 0, iv 0]] := ⟨_, rfl⟩
  unfold Rec.z at hh1
  rw [← hh1]
  obtain ⟨N, hN⟩ : ∃ N, h1.length = N := ⟨_, rfl⟩
  have hNl : h.length + 2 = N := by rw [← hN, hh1]; simp
  obtain ⟨rid, hrid⟩ : ∃ rid, rid = h.length + 1 := ⟨_, rfl⟩
  rw [← hrid, show h.length + 3 = N + 1 by omega]
  have ri : RI h1 rid b (.ok b) h1 := ⟨0, 0, by rw [hh1, hrid]; simp [rdr], by rw [hh1, hrid]; simp, by simp [ISt]⟩
  repeat (first | ((first | refine zd ?_ | refine zx ?_ | refine zk ?_ | refine zl ?_ | refine zr ?_); refine zq ?_) | refine zs ?_ | refine zh (by simp -implicitDefEqProofs (disch := (first | omega | (simp; done) | fail)) [if_pos, if_neg, wrap_i64, tmod_pos, tdiv_pos, Int.toNat_add, hN, getN hN, setN hN, getN0 hN, setN0 hN]; rfl) ?_ | refine zb ?_ | refine zo ?_ | refine zt ?_ | refine zf ?_)
  refine goes_callS (callable_of Tryz.func42) (by simp -implicitDefEqProofs (disch := (first | omega | (simp; done) | fail)) [if_pos, if_neg, wrap_i64, tmod_pos, tdiv_pos, Int.toNat_add] <;> first | rfl | omega) _ (inumi_ok.at_ hB ri) ?_
  rintro _ _ ⟨⟨x1, rfl, vx1⟩, h', rfl, hl', ri2⟩
  clear ri
  have ri := ri2
  replace hN := hl'.trans hN
  clear ri2 hl'
  refine goes_eq (by simp -implicitDefEqProofs (disch := (first | omega | (simp; done) | fail)) [if_pos, if_neg, wrap_i64, tmod_pos, tdiv_pos, Int.toNat_add, hN, getN hN, setN hN, getN0 hN, setN0 hN]; rfl) ?_
  by_cases hbig : (∃ l, runT rdNum (.ok b) = .ok l) ∧ 1 < x1
  · obtain ⟨⟨l, hl⟩, hx⟩ := hbig
    have hw : whole rdRec .zero b = (.zero, 11) := by
      cases hn : rdNum b with
      | error e => rw [run_err hn] at hl; cases hl
      | ok p =>
        have h1 := vx1 b p rfl hn
        have hr : rdRec b = .error 11 := by simp [rdRec, hn, ← h1, hx]
        simp [whole, hr]
    rw [hl] at ri
    rw [hw]
    obtain ⟨a, e, rfl, _, hst⟩ := ri
    obtain ⟨h2, he2⟩ : ∃ h2, h2 = h ++ [.cells (Rec.z false), rdr b a e] := ⟨_, rfl⟩
    rw [show h1.set rid (rdr b a e) = h2 by rw [hh1, hrid, he2]; simp [Rec.z]]
    clear hN
    subst hNl
    subst hrid
    simp only [Rec.z] at he2
    subst he2
    simp only [List.append_assoc, List.cons_append, List.nil_append]
    rw [show h.length + 2 + 1 = h.length + 3 from rfl]
    clear hh1
    obtain ⟨_, rfl, _⟩ := hst
    unfold rdr
    refine goes_done ?_
    repeat (first | ((first | refine zd ?_ | refine zx ?_ | refine zk ?_ | refine zl ?_ | refine zr ?_); refine zq ?_) | refine zs ?_ | refine zh (by simp -implicitDefEqProofs (disch := (first | omega | (simp; done) | fail)) [if_pos, if_neg, wrap_i64, tmod_pos, tdiv_pos, Int.toNat_add, hx]; rfl) ?_ | refine zb ?_ | refine zo ?_ | refine zt ?_ | refine zf ?_)
    first | refine zy (.inr rfl) ?_ | refine zy (.inl rfl) ?_
    simp [Rec.c, Rec.zero, Iid.zero, Bal.zero, Cmd.zero, Inst.zero, Snap.zero]
  refine goes_done ?_
  (try simp only [vq, if_true, reduceIte, Nat.reduceEqDiff, reduceCtorEq])
  refine dcut (fun st' => st'.le ⟨Tryz.f19.ntmps, [(6, iv x1), (5, .ptr (N + 1) 0), (4, .ref [.ptr rid 0] 0), (3, iv 0), (2, .ptr h.length 0)], h' ++ [.dead, .cells [.bool false, iv 0, iv 0, iv 0, iv 0, iv 0, iv 0, iv 0, iv 0, iv 0, iv 0, iv 0, .str [], .str [], iv 0, iv 0, iv 0, iv 0, .list [] .full, iv 0, .list [] .full, .list [] .full, .list [] .full]]⟩) ?_ ?_
  · obtain ⟨a, e, hg, ha, hs⟩ := ri.getl
    unfold rdr at hg
    cases hst : runT rdNum (.ok b) with
    | error e' =>
      rw [hst] at hs
      obtain ⟨he, rfl⟩ := hs
      have q2 : ((e : Int) == 0) = false := by simp; omega
      repeat (first | ((first | refine zd ?_ | refine zx ?_ | refine zk ?_ | refine zl ?_ | refine zr ?_); refine zq ?_) | refine zs ?_ | refine zh (by simp -implicitDefEqProofs (disch := (first | omega | (simp; done) | fail)) [if_pos, if_neg, wrap_i64, tmod_pos, tdiv_pos, Int.toNat_add, hN, getN hN, setN hN, getN0 hN, setN0 hN, hg, q2]; rfl) ?_ | refine zb ?_ | refine zo ?_ | refine zt ?_ | refine zf ?_)
      exact st_keep' (by simp []) (by simp [])
    | ok l =>
      rw [hst] at hs
      obtain ⟨rfl, _⟩ := hs
      have hg : ∀ l : AHeap, (h' ++ l)[rid]? = some (.cells [.str b, .int .i64 (a : Nat), .int .i64 0]) := hg
      have q2 : ¬ 1 < x1 := fun hx => hbig ⟨⟨l, hst⟩, hx⟩
      repeat (first | ((first | refine zd ?_ | refine zx ?_ | refine zk ?_ | refine zl ?_ | refine zr ?_); refine zq ?_) | refine zs ?_ | refine zh (by simp -implicitDefEqProofs (disch := (first | omega | (simp; done) | fail)) [if_pos, if_neg, wrap_i64, tmod_pos, tdiv_pos, Int.toNat_add, hN, getN hN, setN hN, getN0 hN, setN0 hN, hg, q2]; rfl) ?_ | refine zb ?_ | refine zo ?_ | refine zt ?_ | refine zf ?_)
      exact st_keep' (by simp []) (by simp [])
  intro st' hle
  refine awp_le hle ?_
  clear hle
  by_cases hx : x1 = 1
  · have q3 : (x1 == 1) = true := by simp [hx]
    repeat (first | ((first | refine zd ?_ | refine zx ?_ | refine zk ?_ | refine zl ?_ | refine zr ?_); refine zq ?_) | refine zs ?_ | refine zh (by simp -implicitDefEqProofs (disch := (first | omega | (simp; done) | fail)) [if_pos, if_neg, wrap_i64, tmod_pos, tdiv_pos, Int.toNat_add, hN, getN hN, setN hN, getN0 hN, setN0 hN, q3]; rfl) ?_ | refine zb ?_ | refine zo ?_ | refine zt ?_ | refine zf ?_)
    refine goes_callS (callable_of Tryz.func43) (by simp -implicitDefEqProofs (disch := (first | omega | (simp; done) | fail)) [if_pos, if_neg, wrap_i64, tmod_pos, tdiv_pos, Int.toNat_add, Snap.av', Snap.c] <;> first | rfl | omega) _ (isnap_ok.at_ hB ri) ?_
    rintro _ _ ⟨⟨x2, rfl, vx2⟩, h', rfl, hl', ri2⟩
    clear ri
    have ri := ri2
    replace hN := hl'.trans hN
    clear ri2 hl'
    refine goes_eq (by simp -implicitDefEqProofs (disch := (first | omega | (simp; done) | fail)) [if_pos, if_neg, wrap_i64, tmod_pos, tdiv_pos, Int.toNat_add, hN, getN hN, setN hN, getN0 hN, setN0 hN, Snap.av', Snap.c]; rfl) ?_
    repeat (first | ((first | refine zd ?_ | refine zx ?_ | refine zk ?_ | refine zl ?_ | refine zr ?_); refine zq ?_) | refine zs ?_ | refine zh (by simp -implicitDefEqProofs (disch := (first | omega | (simp; done) | fail)) [if_pos, if_neg, wrap_i64, tmod_pos, tdiv_pos, Int.toNat_add, hN, getN hN, setN hN, getN0 hN, setN0 hN]; rfl) ?_ | refine zb ?_ | refine zo ?_ | refine zt ?_ | refine zf ?_)
    have vs := recA vx1 hx vx2
    rw [← vs.2] at ri
    refine goes_callS (callable_of Tryz.func46) (by simp -implicitDefEqProofs (disch := (first | omega | (simp; done) | fail)) [if_pos, if_neg, wrap_i64, tmod_pos, tdiv_pos, Int.toNat_add] <;> first | rfl | omega) _ (iend_ok _ rid b _ hB (ri.now _)) ?_
    rintro _ _ ⟨rfl, rfl⟩
    obtain ⟨w1, w2, w3⟩ := whole_end rdRec .zero b rec_nz
    rw [← w1]
    have hv := vs.1 b
    clear w1 vs
    generalize whole rdRec .zero b = w at *
    obtain ⟨a, e, rfl, _, hst⟩ := ri
    obtain ⟨h2, he2⟩ : ∃ h2, h2 = h ++ [.cells (Rec.z false), rdr b a e] := ⟨_, rfl⟩
    rw [show h1.set rid (rdr b a e) = h2 by rw [hh1, hrid, he2]; simp [Rec.z]]
    clear hN
    subst hNl
    subst hrid
    simp only [Rec.z] at he2
    subst he2
    simp only [List.append_assoc, List.cons_append, List.nil_append]
    rw [show h.length + 2 + 1 = h.length + 3 from rfl]
    clear hh1
    generalize rdr b a e = ro
    by_cases hz : w.2 = 0
    · obtain ⟨p, hp, hw⟩ := w3 hz
      rw [hz, hw, ← hv p rfl hp]
      refine ze ?_
      repeat (first | ((first | refine zd ?_ | refine zx ?_ | refine zk ?_ | refine zl ?_ | refine zr ?_); refine zq ?_) | refine zs ?_ | refine zg ?_ | refine zb ?_ | refine zo ?_ | refine zt ?_ | refine zf ?_)
      first | refine zy (.inr rfl) ?_ | refine zy (.inl rfl) ?_
      simp [Rec.c, Iid.zero, Bal.zero, Cmd.zero, Inst.zero, Snap.zero]
    · rw [w2 hz]
      have hz2 : ((w.2 : Int) != 0) = true := by simp; omega
      refine ze ?_
      repeat (first | ((first | refine zd ?_ | refine zx ?_ | refine zk ?_ | refine zl ?_ | refine zr ?_); refine zq ?_) | refine zs ?_ | refine zh (by simp -implicitDefEqProofs (disch := (first | omega | (simp; done) | fail)) [if_pos, if_neg, wrap_i64, tmod_pos, tdiv_pos, Int.toNat_add, hz2]; rfl) ?_ | refine zb ?_ | refine zo ?_ | refine zt ?_ | refine zf ?_)
      first | refine zy (.inr rfl) ?_ | refine zy (.inl rfl) ?_
      simp [Rec.c, Rec.zero, Iid.zero, Bal.zero, Cmd.zero, Inst.zero, Snap.zero]
  · have q3 : (x1 == 1) = false := by simp [hx]
    repeat (first | ((first | refine zd ?_ | refine zx ?_ | refine zk ?_ | refine zl ?_ | refine zr ?_); refine zq ?_) | refine zs ?_ | refine zh (by simp -implicitDefEqProofs (disch := (first | omega | (simp; done) | fail)) [if_pos, if_neg, wrap_i64, tmod_pos, tdiv_pos, Int.toNat_add, hN, getN hN, setN hN, getN0 hN, setN0 hN, q3]; rfl) ?_ | refine zb ?_ | refine zo ?_ | refine zt ?_ | refine zf ?_)
    refine goes_callS (callable_of Tryz.func44) (by simp -implicitDefEqProofs (disch := (first | omega | (simp; done) | fail)) [if_pos, if_neg, wrap_i64, tmod_pos, tdiv_pos, Int.toNat_add, Iid.av, Iid.c] <;> first | rfl | omega) _ (iid_ok.at_ hB ri) ?_
    rintro _ _ ⟨⟨x2, rfl, vx2⟩, h', rfl, hl', ri2⟩
    clear ri
    have ri := ri2
    replace hN := hl'.trans hN
    clear ri2 hl'
    refine goes_eq (by simp -implicitDefEqProofs (disch := (first | omega | (simp; done) | fail)) [if_pos, if_neg, wrap_i64, tmod_pos, tdiv_pos, Int.toNat_add, hN, getN hN, setN hN, getN0 hN, setN0 hN, Iid.av, Iid.c]; rfl) ?_
    repeat (first | ((first | refine zd ?_ | refine zx ?_ | refine zk ?_ | refine zl ?_ | refine zr ?_); refine zq ?_) | refine zs ?_ | refine zh (by simp -implicitDefEqProofs (disch := (first | omega | (simp; done) | fail)) [if_pos, if_neg, wrap_i64, tmod_pos, tdiv_pos, Int.toNat_add, hN, getN hN, setN hN, getN0 hN, setN0 hN]; rfl) ?_ | refine zb ?_ | refine zo ?_ | refine zt ?_ | refine zf ?_)
    refine goes_callS (callable_of Tryz.func45) (by simp -implicitDefEqProofs (disch := (first | omega | (simp; done) | fail)) [if_pos, if_neg, wrap_i64, tmod_pos, tdiv_pos, Int.toNat_add, Inst.av', Inst.c] <;> first | rfl | omega) _ (iinst_ok.at_ hB ri) ?_
    rintro _ _ ⟨⟨x3, rfl, vx3⟩, h', rfl, hl', ri2⟩
    clear ri
    have ri := ri2
    replace hN := hl'.trans hN
    clear ri2 hl'
    refine goes_eq (by simp -implicitDefEqProofs (disch := (first | omega | (simp; done) | fail)) [if_pos, if_neg, wrap_i64, tmod_pos, tdiv_pos, Int.toNat_add, hN, getN hN, setN hN, getN0 hN, setN0 hN, Inst.av', Inst.c]; rfl) ?_
    repeat (first | ((first | refine zd ?_ | refine zx ?_ | refine zk ?_ | refine zl ?_ | refine zr ?_); refine zq ?_) | refine zs ?_ | refine zh (by simp -implicitDefEqProofs (disch := (first | omega | (simp; done) | fail)) [if_pos, if_neg, wrap_i64, tmod_pos, tdiv_pos, Int.toNat_add, hN, getN hN, setN hN, getN0 hN, setN0 hN]; rfl) ?_ | refine zb ?_ | refine zo ?_ | refine zt ?_ | refine zf ?_)
    have vs := recB vx1 hx (fun l hl h => hbig ⟨⟨l, hl⟩, h⟩) (((VS.nop.seq vx2).seq vx3).as (fun p => (p.1.2, p.2)))
    rw [← vs.2] at ri
    refine goes_callS (callable_of Tryz.func46) (by simp -implicitDefEqProofs (disch := (first | omega | (simp; done) | fail)) [if_pos, if_neg, wrap_i64, tmod_pos, tdiv_pos, Int.toNat_add] <;> first | rfl | omega) _ (iend_ok _ rid b _ hB (ri.now _)) ?_
    rintro _ _ ⟨rfl, rfl⟩
    obtain ⟨w1, w2, w3⟩ := whole_end rdRec .zero b rec_nz
    rw [← w1]
    have hv := vs.1 b
    clear w1 vs
    generalize whole rdRec .zero b = w at *
    obtain ⟨a, e, rfl, _, hst⟩ := ri
    obtain ⟨h2, he2⟩ : ∃ h2, h2 = h ++ [.cells (Rec.z false), rdr b a e] := ⟨_, rfl⟩
    rw [show h1.set rid (rdr b a e) = h2 by rw [hh1, hrid, he2]; simp [Rec.z]]
    clear hN
    subst hNl
    subst hrid
    simp only [Rec.z] at he2
    subst he2
    simp only [List.append_assoc, List.cons_append, List.nil_append]
    rw [show h.length + 2 + 1 = h.length + 3 from rfl]
    clear hh1
    generalize rdr b a e = ro
    by_cases hz : w.2 = 0
    · obtain ⟨p, hp, hw⟩ := w3 hz
      rw [hz, hw, ← hv p rfl hp]
      refine ze ?_
      repeat (first | ((first | refine zd ?_ | refine zx ?_ | refine zk ?_ | refine zl ?_ | refine zr ?_); refine zq ?_) | refine zs ?_ | refine zg ?_ | refine zb ?_ | refine zo ?_ | refine zt ?_ | refine zf ?_)
      first | refine zy (.inr rfl) ?_ | refine zy (.inl rfl) ?_
      simp [Rec.c, Iid.zero, Bal.zero, Cmd.zero, Inst.zero, Snap.zero]
    · rw [w2 hz]
      have hz2 : ((w.2 : Int) != 0) = true := by simp; omega
      refine ze ?_
      repeat (first | ((first | refine zd ?_ | refine zx ?_ | refine zk ?_ | refine zl ?_ | refine zr ?_); refine zq ?_) | refine zs ?_ | refine zh (by simp -implicitDefEqProofs (disch := (first | omega | (simp; done) | fail)) [if_pos, if_neg, wrap_i64, tmod_pos, tdiv_pos, Int.toNat_add, hz2]; rfl) ?_ | refine zb ?_ | refine zo ?_ | refine zt ?_ | refine zf ?_)
      first | refine zy (.inr rfl) ?_ | refine zy (.inl rfl) ?_
      simp [Rec.c, Rec.zero, Iid.zero, Bal.zero, Cmd.zero, Inst.zero, Snap.zero]
end Go.Proofs.YtdncoobpdllpkaaGreat.D
