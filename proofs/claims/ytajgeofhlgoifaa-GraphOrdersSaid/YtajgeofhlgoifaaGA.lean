import Derived.Test.YtajgeofhlgoifaaIB
import Derived.Test.YtajgeofhlgoifaaV35
/- Graphs: which of two instances comes first. -/
set_option linter.unusedVariables false
set_option linter.unusedSimpArgs false
set_option maxRecDepth 20000
namespace Go.Proofs.Ytajgeofhlgoifaa.G
open Go Go.Proofs.Ytajgeofhlgoifaa.V Go.Proofs.Ytajgeofhlgoifaa.I Go.Sort Go.RowKit
theorem eqb (a b : Iid) : (a.e == b.e && (a.n == b.n && a.o == b.o)) = decide (a = b) := by
  obtain ⟨a1, a2, a3⟩ := a
  obtain ⟨b1, b2, b3⟩ := b
  rw [Bool.eq_iff_iff]
  simp
theorem neb (a b : Iid) : (a.e != b.e || (a.n != b.n || a.o != b.o)) = !decide (a = b) := by
  rw [← eqb]
  simp [bne, Bool.not_and]
def ordG (a b : Iid) : Int := if lessB a b = true then -1 else if a = b then 0 else 1
theorem gorder_ok (a b : Iid) (h : AHeap) : ACalls Try.prog 33 [Iid.av a, Iid.av b] h fun r h' => r = iv (ordG a b) ∧ h' = h := by
  have hl := fun h => less_ok a b h
  unfold Iid.av Iid.c at hl ⊢
  refine acalls_of_awp Try.func33 rfl (by simp only [List.length_cons, List.length_nil]; decide) ?_
  simp only [params_cons, params_nil]
  repeat (first | ((first | refine zd ?_ | refine zx ?_ | refine zk ?_ | refine zl ?_ | refine zr ?_); refine zq ?_) | refine zs ?_ | refine zg ?_ | refine zb ?_ | refine zo ?_ | refine zt ?_ | refine zf ?_)
  refine zp (callable_of Try.func25) _ (hl _) ?_
  rintro _ _ ⟨rfl, rfl⟩
  unfold ordG
  cases h1 : lessB a b with
  | true =>
    refine goes_eq (by simp -implicitDefEqProofs (disch := (first | omega | (simp; done) | fail)) [if_pos, if_neg, wrap_i64, tmod_pos, tdiv_pos, Int.toNat_add, h1]; rfl) ?_
    repeat (first | ((first | refine zd ?_ | refine zx ?_ | refine zk ?_ | refine zl ?_ | refine zr ?_); refine zq ?_) | refine zs ?_ | refine zg ?_ | refine zb ?_ | refine zo ?_ | refine zt ?_ | refine zf ?_)
    first | refine zy (.inr rfl) ?_ | refine zy (.inl rfl) ?_
    simp
  | false =>
    by_cases h2 : a = b
    · have e := eqb a b
      rw [decide_eq_true h2] at e
      refine goes_eq (by simp -implicitDefEqProofs (disch := (first | omega | (simp; done) | fail)) [if_pos, if_neg, wrap_i64, tmod_pos, tdiv_pos, Int.toNat_add, h1]; rfl) ?_
      repeat (first | ((first | refine zd ?_ | refine zx ?_ | refine zk ?_ | refine zl ?_ | refine zr ?_); refine zq ?_) | refine zs ?_ | refine zh (by simp -implicitDefEqProofs (disch := (first | omega | (simp; done) | fail)) [if_pos, if_neg, wrap_i64, tmod_pos, tdiv_pos, Int.toNat_add, e]; rfl) ?_ | refine zb ?_ | refine zo ?_ | refine zt ?_ | refine zf ?_)
      first | refine zy (.inr rfl) ?_ | refine zy (.inl rfl) ?_
      simp [h2]
    · have e := eqb a b
      rw [decide_eq_false h2] at e
      refine goes_eq (by simp -implicitDefEqProofs (disch := (first | omega | (simp; done) | fail)) [if_pos, if_neg, wrap_i64, tmod_pos, tdiv_pos, Int.toNat_add, h1]; rfl) ?_
      repeat (first | ((first | refine zd ?_ | refine zx ?_ | refine zk ?_ | refine zl ?_ | refine zr ?_); refine zq ?_) | refine zs ?_ | refine zh (by simp -implicitDefEqProofs (disch := (first | omega | (simp; done) | fail)) [if_pos, if_neg, wrap_i64, tmod_pos, tdiv_pos, Int.toNat_add, e]; rfl) ?_ | refine zb ?_ | refine zo ?_ | refine zt ?_ | refine zf ?_)
      first | refine zy (.inr rfl) ?_ | refine zy (.inl rfl) ?_
      simp [h2]
theorem ltG (a b : Iid) : ltOf ordG a b = lessB a b := by
  unfold ltOf ordG
  cases h : lessB a b with
  | true => simp
  | false => by_cases e : a = b <;> simp [e]
theorem ltG_eq : (ltOf ordG : Iid → Iid → Bool) = ltOf ordI := by
  funext a b
  rw [ltG, lt_less]
theorem ordG_swo : SWO (ltOf ordG) := by rw [ltG_eq]; exact ord_swo
theorem ordG_total (x y : Iid) (h1 : ltOf ordG x y = false) (h2 : ltOf ordG y x = false) : x = y := by
  rw [ltG_eq] at h1 h2; exact ord_total x y h1 h2
theorem gorder_lays (blk off size : Nat) (w : World) : CmpLays Try.prog 33 #[] enc 3 ordG blk off size w := fun m os dk hs x y => by
  generalize sortWorldK enc 3 w blk off m dk os = W
  refine (gorder_ok x y [] W (g0 W) W #[.agg (enc x).toArray, .agg (enc y).toArray] (cells_cons (iid_back _ x) (cells_cons (iid_back _ y) ⟨rfl, fun i h => absurd h (by simp)⟩)) (sim0 W)).mono ?_
  rintro e w' ⟨r, v, h', g', rfl, l, hr, S, rfl, -⟩
  exact ⟨by rw [hr.int_eq], grown_of S.below S.drawn⟩
end Go.Proofs.Ytajgeofhlgoifaa.G

/- Graphs: sorting by the order of instances. -/
set_option linter.unusedVariables false
set_option linter.unusedSimpArgs false
set_option maxRecDepth 20000
namespace Go.Proofs.Ytajgeofhlgoifaa.G
open Go Go.Proofs.Ytajgeofhlgoifaa.V Go.Proofs.Ytajgeofhlgoifaa.I Go.Sort Go.RowKit
theorem gsort_arr (ks : List Iid) (aid c : Nat) (cs : List AV) (h : AHeap) (hk : ks.length ≤ 1000000) (ho : h[aid]? = some (.cells cs)) (hc : cs.length = c * 3) (h0 : 0 < c) (htk : cs.take (ks.length * 3) = ks.flatMap Iid.c) :
    ACalls Try.prog 61 [.arr aid 0 ks.length c, .func (.func 33) [] []] h fun r h' => r = .tuple [] ∧ h' = h.set aid (.cells ((srt ks).flatMap Iid.c ++ cs.drop (ks.length * 3))) := fun w0 g w vs hv S => by
  obtain ⟨v, u, rfl, hva, hvf⟩ := vals_two hv
  obtain ⟨hid, b, o, hb, hle, hm, hoff, rfl⟩ := hva.arr_eq
  obtain rfl : o = 0 := hoff h0
  have hu : u = .func (.func 33) #[] #[] := by
    cases hvf with
    | func fn first captured f c hf hc h1 h2 =>
      have e1 : f = #[] := Array.eq_empty_of_size_eq_zero hf.symm
      have e2 : c = #[] := Array.eq_empty_of_size_eq_zero hc.symm
      rw [e1, e2]
  subst hu
  have hO := S.obj aid _ ho
  rw [hb] at hO
  obtain ⟨hbase, ⟨cv, t, hh, hrel⟩, him⟩ := hO
  have hbl : b < w.heap.size := (Array.getElem?_eq_some_iff.1 hh).1
  have hsz : cv.size = c * 3 := by have h5 : cs.length = cv.toList.length := hrel.1; have h6 : cv.toList.length = cv.size := Array.length_toList; omega
  have hfl : ∀ i, w.frozen? ⟨b, i, none⟩ = false := fun i => frozen_no hh
  have hget : ∀ j, j < ks.length * 3 → cv[j]? = some (.int .i64 (cz ks[j / 3]! (j % 3))) := fun j hj => by
    have h1 : j < cs.length := by omega
    have h2 : j < cv.toList.length := by simp; omega
    have h3 := hrel.2 j h1 h2
    have h4 : cs[j]? = some (iv (cz ks[j / 3]! (j % 3))) := by
      rw [← flc_some hj, ← htk, List.getElem?_take, if_pos hj]
    rw [List.getElem?_eq_getElem h1] at h4
    injection h4 with h4
    rw [h4] at h3
    have h7 := h3.int_eq
    have h8 : j < cv.size := by omega
    rw [Array.getElem?_eq_getElem h8]
    rw [Array.getElem_toList] at h7
    rw [h7]
  have hH : HoldsK enc 3 w b 0 ks.toArray := fun j hj => by
    have hj' : j < ks.length * 3 := by simpa using hj
    refine ⟨?_, hfl _⟩
    rw [Nat.zero_add, cells_cell hh, hget j hj', flat_at hj']
    rfl
  have hcall := AnyQ.slices_SortFunc_total (P := Try.prog) Try.sortL 3 Try.isAgg25 Try.sizeOf25 enc (fun _ => rfl) (fun x v hv => by simp [enc] at hv; rcases hv with rfl | rfl | rfl <;> rfl) ordG ordG_swo 33 #[] b 0 c ks.toArray w
    (enters_of Try.func33 (by kernel_rfl) rfl) (gorder_lays b 0 _ w) hH hbl (by simp; omega) ordG_total
  simp only [ltG_eq] at hcall
  have hcall' : Calls Try.prog 61 _ _ _ := hcall
  simp only [List.size_toArray] at hcall'
  refine hcall'.mono ?_
  rintro e w' ⟨rfl, n, os, rfl⟩
  have hs3 : (srt ks).length = ks.length := srt_len ks
  have hw : (sortWorldK enc 3 w b 0 n (srt ks).toArray os).heap[b]? = some (.cells (putCells id 0 (flatK enc 3 (srt ks).toArray) cv) t (0, 0)) := by
    unfold sortWorldK
    rw [heap_grow_old _ _ (by simp [putRowK]; exact hbl)]
    simp [putRowK, putRow, mapBlock, Sort.ahead, Array.getElem?_modify, hh, onCells]
  have hother : ∀ k, k < w.heap.size → k ≠ b → (sortWorldK enc 3 w b 0 n (srt ks).toArray os).heap[k]? = w.heap[k]? := fun k hk hne => by
    unfold sortWorldK
    rw [heap_grow_old _ _ (by simp [putRowK]; exact hk)]
    simp [putRowK, putRow, mapBlock, Sort.ahead, Array.getElem?_modify, Ne.symm hne]
  refine ⟨.tuple [], _, _, g, rfl, .refl g, .tuple _ _ rfl fun i h => absurd h (by simp), ?_, rfl, rfl⟩
  refine S.turn (b := b) ho (by simp) (by rw [hb]; rfl) (by simp [sortWorldK, grow, putRowK, putRow, mapBlock, Sort.ahead]) rfl rfl rfl hother (fun o v e => by rw [him o] at e; cases e) (fun o v e => by rw [him o] at e; cases e) ?_ (by simp [sortWorldK, grow, putRowK, putRow, mapBlock, Sort.ahead])
  rw [hb]
  refine ⟨hbase, ⟨_, t, hw, ?_⟩, him⟩
  refine ⟨by rw [List.length_append, flc_len, List.length_drop, hs3]; simp [putCells, hsz]; omega, fun i h1 h2 => ?_⟩
  have hi : i < c * 3 := by simpa [putCells, hsz] using h2
  simp only [putCells, Array.toList_mapIdx, List.getElem_mapIdx, Array.getElem_toList]
  by_cases hlt : i < ks.length * 3
  · rw [if_pos ⟨Nat.zero_le _, by simpa [hs3] using hlt⟩]
    have e1 : ((srt ks).flatMap Iid.c ++ cs.drop (ks.length * 3))[i]? = some (iv (cz (srt ks)[i / 3]! (i % 3))) := by
      rw [List.getElem?_append_left (by rw [flc_len, hs3]; exact hlt), flc_some (by rw [hs3]; exact hlt)]
    rw [List.getElem?_eq_getElem h1] at e1
    injection e1 with e1
    rw [e1, Nat.sub_zero, flat_at (by rw [hs3]; exact hlt)]
    exact .int _ _
  · rw [if_neg (by simp [hs3]; omega)]
    have e1 : ((srt ks).flatMap Iid.c ++ cs.drop (ks.length * 3))[i]? = cs[i]? := by
      rw [List.getElem?_append_right (by rw [flc_len, hs3]; omega), flc_len, hs3, List.getElem?_drop]
      congr 1; omega
    have h4 : i < cs.length := by omega
    rw [List.getElem?_eq_getElem h1, List.getElem?_eq_getElem h4] at e1
    injection e1 with e1
    rw [e1]
    have := hrel.2 i h4 (by simp; omega)
    simpa using this
theorem gsort_nil (t : Tok) (h : AHeap) : ACalls Try.prog 61 [.list [] t, .func (.func 33) [] []] h fun r h' => r = .tuple [] ∧ h' = h := fun w0 g w vs hv S => by
  obtain ⟨v, u, rfl, hva, hvf⟩ := vals_two hv
  obtain ⟨a, c, rfl⟩ : ∃ a c, v = .slice a 0 c := by
    cases hva with
    | list xs t a c k b o u hc hm hn hk ha h1 h2 ht => exact ⟨a, c, rfl⟩
  have hcall : Calls Try.prog 61 _ _ _ := AnyF.slices_SortFunc_none (P := Try.prog) Try.sortL a c u w
  refine hcall.mono ?_
  rintro e w' ⟨rfl, rfl⟩
  exact ⟨.tuple [], _, h, g, rfl, .refl g, .tuple _ _ rfl fun i h => absurd h (by simp), S, rfl, rfl⟩
end Go.Proofs.Ytajgeofhlgoifaa.G

/- Graphs: a map's keys, one by one. -/
set_option linter.unusedVariables false
set_option linter.unusedSimpArgs false
set_option maxRecDepth 20000
namespace Go.Proofs.Ytajgeofhlgoifaa.G
open Go Go.Proofs.Ytajgeofhlgoifaa.V Go.Proofs.Ytajgeofhlgoifaa.I Go.Sort Go.RowKit
theorem appseqB_ok (p : MS) (hw : WF p) (id mb : Nat) (hl : p.1.length ≤ 100000) (h : AHeap) (hm : h[mb]? = some (.cells [.map id])) (ho : h[id]? = some p.o) :
    ACalls Try.prog 82 [.list [] .full, .func (.func 62) [] [.ptr mb 0]] h fun r h' => ∃ ks sv o X, r = sv.strip ∧ h' = h ++ (.cells [sv] :: o :: X) ∧ Col X h.length sv ks ∧ ks.Nodup ∧ ∀ k, k ∈ ks ↔ k ∈ p.1.map (·.1) := by
  have hml : ∀ y, (h ++ y)[mb]? = some (.cells [.map id]) := fun y => by rw [List.getElem?_append_left (List.getElem?_eq_some_iff.1 hm).1]; exact hm
  have hol : ∀ y, (h ++ y)[id]? = some p.o := fun y => by rw [List.getElem?_append_left (List.getElem?_eq_some_iff.1 ho).1]; exact ho
  clear hm ho
  refine acalls_of_awp Try.func82 rfl (by simp only [List.length_cons, List.length_nil]; decide) ?_
  simp only [params_cons, params_nil]
  repeat (first | ((first | refine zd ?_ | refine zx ?_ | refine zk ?_ | refine zl ?_ | refine zr ?_); refine zq ?_) | refine zs ?_ | refine zg ?_ | refine zb ?_ | refine zo ?_ | refine zt ?_ | refine zf ?_)
  refine awp_rangeFunc rfl (by simp -implicitDefEqProofs; rfl) (callable_of Try.func62) (fun lp => acallsE_of_awp rfl Try.func62 rfl (by simp only [List.length_cons, List.length_nil]; decide) ?_)
  simp only [params_cons, params_nil]
  have hol2 : ∀ y, (h ++ y)[id]? = some (.map (p.1.map fun q => (Iid.av q.1, q.2.1, q.2.2)) p.2) := hol
  refine awp_seq ?_
  refine awp_region_at 1 rfl rfl ?_
  refine run_start (goes_eq (by simp -implicitDefEqProofs (disch := (first | omega | (simp; done) | fail)) [if_pos, if_neg, wrap_i64, tmod_pos, tdiv_pos, Int.toNat_add, hml]; rfl) ?_)
  refine goes_done ?_
  refine aops_range (id := id) (clock := p.2) rfl rfl Try.underlying54 rfl (hol2 _) ?_
  refine aops_end ?_
  refine zn ?_
  refine goes_done ?_
  simp only [vq, if_true, reduceIte, Nat.reduceEqDiff, reduceCtorEq]
  refine awp_block ?_
  refine awp_loop (fun z st => ∃ (ps : Ents Iid) (sv : AV) (X : AHeap), z = (p.1.filter fun q => !(ps.map (·.2.2)).contains q.2.2).length ∧ ps.length + z ≤ p.1.length ∧ (∀ q ∈ ps, q ∈ p.1) ∧ (ps.map (·.2.2)).Nodup ∧ Col X h.length sv (ps.map (·.1)) ∧ st.le ⟨Try.f62.ntmps, [(0, .func (.yield lp) [] []), (5, .ptr (h.length + 1) 0)], h ++ (.cells [sv] :: .iter id p.2 p.2 (ps.map (·.2.2)) :: X)⟩) (p.1.filter fun q => !(([] : Ents Iid).map (·.2.2)).contains q.2.2).length ?_ ?_
  rotate_left
  rintro z st ⟨ps, sv, X, rfl, hsz, hps, hnd, hcol, hle⟩
  · refine awp_le hle ?_
    clear hle
    refine awp_seq ?_
    refine awp_region_at 0 rfl rfl ?_
    refine zn ?_
    refine goes_done ?_
    refine aops_next (id := id) (rid := h.length + 1) (clock := p.2) (since := p.2) (last := p.2) (seen := ps.map (·.2.2)) (es := p.1.map fun q => (Iid.av q.1, q.2.1, q.2.2)) rfl rfl rfl (by simp) (hol2 _) (fun q hq => ?_) (Nat.le_refl _) (fun hall => ?_) (fun p0 hp0 hns => ?_)
    · obtain ⟨e, he, rfl⟩ := List.mem_map.1 hq
      exact hw.lt e he
    · refine aops_end ?_
      refine zn ?_
      refine goes_done ?_
      simp only [vq, if_true, reduceIte, Nat.reduceEqDiff, reduceCtorEq]
      repeat (first | ((first | refine zd ?_ | refine zx ?_ | refine zk ?_ | refine zl ?_ | refine zr ?_); refine zq ?_) | refine zs ?_ | refine zg ?_ | refine zb ?_ | refine zo ?_ | refine zt ?_ | refine zf ?_)
      first | refine body_all (.inr rfl) (by simp -implicitDefEqProofs; rfl) (by simp -implicitDefEqProofs; rfl) (by first | (simp; done) | (simp; omega) | omega) ?_ | refine body_all (.inl rfl) (by simp -implicitDefEqProofs; rfl) (by simp -implicitDefEqProofs; rfl) (by first | (simp; done) | (simp; omega) | omega) ?_
      repeat (first | ((first | refine zd ?_ | refine zx ?_ | refine zk ?_ | refine zl ?_ | refine zr ?_); refine zq ?_) | refine zs ?_ | refine zg ?_ | refine zb ?_ | refine zo ?_ | refine zt ?_ | refine zf ?_)
      refine body_all (.inr rfl) (by simp -implicitDefEqProofs; rfl) rfl (by simp) ?_
      refine ⟨ps.map (·.1), sv, _, X, rfl, rfl, hcol, ?_⟩
      exact col_all hw hps hnd fun e he => hall _ (List.mem_map.2 ⟨e, he, rfl⟩)
    · obtain ⟨q, hq, rfl⟩ := List.mem_map.1 hp0
      refine aops_end ?_
      refine zn ?_
      refine goes_done ?_
      simp only [vq, if_true, reduceIte, Nat.reduceEqDiff, reduceCtorEq]
      refine awp_seq ?_
      refine awp_cond_t rfl ?_
      refine awp_skip ?_
      simp only [vq, if_true, reduceIte, Nat.reduceEqDiff, reduceCtorEq]
      refine awp_block ?_
      refine awp_seq ?_
      refine awp_region_at 0 rfl rfl ?_
      refine zn ?_
      refine goes_done ?_
      refine aops_entry (id := id) (rid := h.length + 1) (clock := p.2) (since := p.2) (seen := ps.map (·.2.2)) (es := p.1.map fun q => (Iid.av q.1, q.2.1, q.2.2)) (p := (Iid.av q.1, q.2.1, q.2.2)) rfl rfl rfl (by simp) (hol2 _) hp0 (by rw [List.map_map]; exact hw.st) ?_
      refine aops_end ?_
      simp only [Iid.av, Iid.c]
      refine zn ?_
      refine goes_done ?_
      simp only [vq, if_true, reduceIte, Nat.reduceEqDiff, reduceCtorEq]
      repeat (first | ((first | refine zd ?_ | refine zx ?_ | refine zk ?_ | refine zl ?_ | refine zr ?_); refine zq ?_) | refine zs ?_ | refine zg ?_ | refine zb ?_ | refine zo ?_ | refine zt ?_ | refine zf ?_)
      refine goes_yield ⟨rfl, rfl, ?_⟩
      simp only [putAll_cons, putAll_nil]
      refine zg ?_
      refine goes_done ?_
      (try simp only [vq, if_true, reduceIte, Nat.reduceEqDiff, reduceCtorEq])
      refine awp_block ?_
      have hns2 : q.2.2 ∉ ps.map (·.2.2) := hns
      have hlt := flt_lt (f := fun e : Iid × AV × Nat => !((ps ++ [q]).map (·.2.2)).contains e.2.2) (g := fun e : Iid × AV × Nat => !(ps.map (·.2.2)).contains e.2.2) (p := q) (fun x hx => by simp at hx ⊢; exact fun a b hab => hx.1 a b hab) (by simpa using hns2) (by simp) hq
      have hpl : ps.length ≤ 100000 := by omega
      have hps2 : ∀ e ∈ ps ++ [q], e ∈ p.1 := fun e he => by
        rcases List.mem_append.1 he with h | h
        · exact hps e h
        · simp at h; rw [h]; exact hq
      have hnd2 : ((ps ++ [q]).map (·.2.2)).Nodup := by
        rw [List.map_append, List.nodup_append]
        refine ⟨hnd, by simp, fun a ha b hb => ?_⟩
        simp at hb
        rw [hb]
        exact fun e => hns2 (e ▸ ha)
      have hst : ps.map (·.2.2) ++ [q.2.2] = (ps ++ [q]).map (·.2.2) := by simp
      rcases hcol with ⟨hk0, rfl⟩ | ⟨aj, c, cs, rfl, haj, hcl, hkc, hc0, htk⟩
      · have hp0 : ps = [] := by simpa using hk0
        refine awp_region_at 3 rfl rfl ?_
        refine zn ?_
        refine goes_done ?_
        refine aops_append_k (k := 3) (by_ := 24) (m := 0) (c := 0) (cs := []) (zc := [iv 0, iv 0, iv 0]) (z := .agg [iv q.1.e, iv q.1.n, iv q.1.o]) rfl rfl (by simp; rfl) (by simp) (by simp) (by simp [iv]) rfl (by decide) rfl (by simp) .nil (by simp [iv]) (by omega) (by omega) ?_
        refine ⟨fun hlt => absurd hlt (by omega), fun _ c' u hc' hu => ?_⟩
        refine aops_end ?_
        refine zn ?_
        refine goes_done ?_
        (try simp only [vq, if_true, reduceIte, Nat.reduceEqDiff, reduceCtorEq])
        refine zn ?_
        refine goes_done ?_
        (try simp only [vq, if_true, reduceIte, Nat.reduceEqDiff, reduceCtorEq])
        repeat (first | ((first | refine zd ?_ | refine zx ?_ | refine zk ?_ | refine zl ?_ | refine zr ?_); refine zq ?_) | refine zs ?_ | refine zg ?_ | refine zb ?_ | refine zo ?_ | refine zt ?_ | refine zf ?_)
        refine ⟨_, hlt, ps ++ [q], .arr (h.length + (X.length + 2 + 2)) 0 1 c', X ++ [.cells [iv q.1.e, iv q.1.n, iv q.1.o], .cells [iv q.1.e, iv q.1.n, iv q.1.o], .cells (iv q.1.e :: iv q.1.n :: iv q.1.o :: u)], rfl, by simp only [List.length_append, List.length_singleton]; omega, hps2, hnd2, ?_, ?_⟩
        · subst hp0
          exact col_mk (ks := []) (q := q.1) (a := X.length + 2) (c := c') (cs := iv q.1.e :: iv q.1.n :: iv q.1.o :: u) (by simp) (by simp [hu]; omega) (by simpa using hc') (by simp [Iid.c])
        · rw [← hst]
          exact st_keep' (by simp []) (by simp [])
      · have hnk : (ps.map (·.1)).length = ps.length := by simp
        rw [hnk] at hkc htk ⊢
        have hxl : aj < X.length := (List.getElem?_eq_some_iff.1 haj).1
        have hajr : ∀ y, (X ++ y)[aj]? = some (.cells cs) := fun y => by rw [List.getElem?_append_left hxl]; exact haj
        have hajs : ∀ y v, (X ++ y).set aj v = X.set aj v ++ y := fun y v => List.set_append_left _ _ hxl
        clear hxl
        refine awp_region_at 3 rfl rfl ?_
        refine zn ?_
        refine goes_done ?_
        refine aops_append_k (k := 3) (by_ := 24) (m := ps.length) (c := c) (cs := cs) (zc := [iv 0, iv 0, iv 0]) (z := .agg [iv q.1.e, iv q.1.n, iv q.1.o]) rfl rfl (by simp; rfl) (by simp) (by simp) (by simp [iv]) rfl (by decide) rfl (by simp) (.arr _ _ _ _ (by simp [hajr]) hcl hkc hc0) (by simp [iv]) (by omega) (by omega) ?_
        have hov : ∀ n, n * 3 + 3 ≤ cs.length → (V.over cs (n * 3) [iv q.1.e, iv q.1.n, iv q.1.o]).take ((n + 1) * 3) = cs.take (n * 3) ++ [iv q.1.e, iv q.1.n, iv q.1.o] := fun n hn => by
          unfold V.over
          rw [List.take_append_of_le_length (by simp; omega), List.take_of_length_le (by simp; omega)]
        refine ⟨fun hlt2 id' hx => ?_, fun hmc c' u hc' hu => ?_⟩
        · injection hx with hx
          subst hx
          refine aops_end ?_
          refine run_start (goes_eq (by simp -implicitDefEqProofs (disch := (first | omega | (simp; done) | fail)) [if_pos, if_neg, wrap_i64, tmod_pos, tdiv_pos, Int.toNat_add, hajs]; rfl) ?_)
          refine goes_done ?_
          (try simp only [vq, if_true, reduceIte, Nat.reduceEqDiff, reduceCtorEq])
          refine zn ?_
          refine goes_done ?_
          (try simp only [vq, if_true, reduceIte, Nat.reduceEqDiff, reduceCtorEq])
          repeat (first | ((first | refine zd ?_ | refine zx ?_ | refine zk ?_ | refine zl ?_ | refine zr ?_); refine zq ?_) | refine zs ?_ | refine zg ?_ | refine zb ?_ | refine zo ?_ | refine zt ?_ | refine zf ?_)
          refine ⟨_, hlt, ps ++ [q], .arr (h.length + (aj + 2)) 0 (ps.length + 1) c, X.set aj (.cells (V.over cs (ps.length * 3) [iv q.1.e, iv q.1.n, iv q.1.o])) ++ [.cells [iv q.1.e, iv q.1.n, iv q.1.o], .cells [iv q.1.e, iv q.1.n, iv q.1.o]], rfl, by simp only [List.length_append, List.length_singleton]; omega, hps2, hnd2, ?_, ?_⟩
          · have hxl : aj < X.length := (List.getElem?_eq_some_iff.1 haj).1
            have := col_mk (X := X.set aj (.cells (V.over cs (ps.length * 3) [iv q.1.e, iv q.1.n, iv q.1.o])) ++ [.cells [iv q.1.e, iv q.1.n, iv q.1.o], .cells [iv q.1.e, iv q.1.n, iv q.1.o]]) (b := h.length) (ks := ps.map (·.1)) (q := q.1) (a := aj) (c := c) (cs := V.over cs (ps.length * 3) [iv q.1.e, iv q.1.n, iv q.1.o]) (by rw [List.getElem?_append_left (by simpa using hxl)]; simp [hxl]) (by rw [over_len (by simp; omega)]; exact hcl) (by rw [hnk]; omega) (by
              rw [hnk, hov _ (by omega), htk]
              rfl)
            rw [hnk] at this
            simpa using this
          · rw [← hst]
            exact st_keep' (by simp []) (by simp [])
        · subst hmc
          refine aops_end ?_
          refine zn ?_
          refine goes_done ?_
          (try simp only [vq, if_true, reduceIte, Nat.reduceEqDiff, reduceCtorEq])
          refine zn ?_
          refine goes_done ?_
          (try simp only [vq, if_true, reduceIte, Nat.reduceEqDiff, reduceCtorEq])
          repeat (first | ((first | refine zd ?_ | refine zx ?_ | refine zk ?_ | refine zl ?_ | refine zr ?_); refine zq ?_) | refine zs ?_ | refine zg ?_ | refine zb ?_ | refine zo ?_ | refine zt ?_ | refine zf ?_)
          refine ⟨_, hlt, ps ++ [q], .arr (h.length + (X.length + 2 + 2)) 0 (ps.length + 1) c', X ++ [.cells [iv q.1.e, iv q.1.n, iv q.1.o], .cells [iv q.1.e, iv q.1.n, iv q.1.o], .cells (cs ++ [iv q.1.e, iv q.1.n, iv q.1.o] ++ u)], rfl, by simp only [List.length_append, List.length_singleton]; omega, hps2, hnd2, ?_, ?_⟩
          · have := col_mk (X := X ++ [.cells [iv q.1.e, iv q.1.n, iv q.1.o], .cells [iv q.1.e, iv q.1.n, iv q.1.o], .cells (cs ++ [iv q.1.e, iv q.1.n, iv q.1.o] ++ u)]) (b := h.length) (ks := ps.map (·.1)) (q := q.1) (a := X.length + 2) (c := c') (cs := cs ++ [iv q.1.e, iv q.1.n, iv q.1.o] ++ u) (by simp) (by simp [hu, hcl]; omega) (by simpa using hc') (by
              rw [hnk, ← htk, List.take_of_length_le (l := cs) (by omega), List.take_append_of_le_length (by simp; omega), List.take_of_length_le (by simp; omega)]
              rfl)
            rw [hnk] at this
            simpa using this
          · rw [← hst]
            exact st_keep' (by simp []) (by simp [])
  · exact ⟨[], .list [] .full, [], rfl, by have := List.length_filter_le (fun q : Iid × AV × Nat => !(([] : Ents Iid).map (·.2.2)).contains q.2.2) p.1; simp only [List.length_nil, Nat.zero_add]; exact this, (fun q hq => by cases hq), by simp, .inl ⟨rfl, rfl⟩, st_keep' (by simp []) (by simp [])⟩
theorem appseqA_ok (p : MS) (hw : WF p) (id mb : Nat) (hl : p.1.length ≤ 100000) (h : AHeap) (hm : h[mb]? = some (.cells [.map id])) (ho : h[id]? = some p.o) :
    ACalls Try.prog 82 [.list [] .full, .func (.func 69) [] [.ptr mb 0]] h fun r h' => ∃ ks sv o X, r = sv.strip ∧ h' = h ++ (.cells [sv] :: o :: X) ∧ Col X h.length sv ks ∧ ks.Nodup ∧ ∀ k, k ∈ ks ↔ k ∈ p.1.map (·.1) := by
  have hml : ∀ y, (h ++ y)[mb]? = some (.cells [.map id]) := fun y => by rw [List.getElem?_append_left (List.getElem?_eq_some_iff.1 hm).1]; exact hm
  have hol : ∀ y, (h ++ y)[id]? = some p.o := fun y => by rw [List.getElem?_append_left (List.getElem?_eq_some_iff.1 ho).1]; exact ho
  clear hm ho
  refine acalls_of_awp Try.func82 rfl (by simp only [List.length_cons, List.length_nil]; decide) ?_
  simp only [params_cons, params_nil]
  repeat (first | ((first | refine zd ?_ | refine zx ?_ | refine zk ?_ | refine zl ?_ | refine zr ?_); refine zq ?_) | refine zs ?_ | refine zg ?_ | refine zb ?_ | refine zo ?_ | refine zt ?_ | refine zf ?_)
  refine awp_rangeFunc rfl (by simp -implicitDefEqProofs; rfl) (callable_of Try.func69) (fun lp => acallsE_of_awp rfl Try.func69 rfl (by simp only [List.length_cons, List.length_nil]; decide) ?_)
  simp only [params_cons, params_nil]
  have hol2 : ∀ y, (h ++ y)[id]? = some (.map (p.1.map fun q => (Iid.av q.1, q.2.1, q.2.2)) p.2) := hol
  refine awp_seq ?_
  refine awp_region_at 1 rfl rfl ?_
  refine run_start (goes_eq (by simp -implicitDefEqProofs (disch := (first | omega | (simp; done) | fail)) [if_pos, if_neg, wrap_i64, tmod_pos, tdiv_pos, Int.toNat_add, hml]; rfl) ?_)
  refine goes_done ?_
  refine aops_range (id := id) (clock := p.2) rfl rfl Try.underlying53 rfl (hol2 _) ?_
  refine aops_end ?_
  refine zn ?_
  refine goes_done ?_
  simp only [vq, if_true, reduceIte, Nat.reduceEqDiff, reduceCtorEq]
  refine awp_block ?_
  refine awp_loop (fun z st => ∃ (ps : Ents Iid) (sv : AV) (X : AHeap), z = (p.1.filter fun q => !(ps.map (·.2.2)).contains q.2.2).length ∧ ps.length + z ≤ p.1.length ∧ (∀ q ∈ ps, q ∈ p.1) ∧ (ps.map (·.2.2)).Nodup ∧ Col X h.length sv (ps.map (·.1)) ∧ st.le ⟨Try.f69.ntmps, [(0, .func (.yield lp) [] []), (5, .ptr (h.length + 1) 0)], h ++ (.cells [sv] :: .iter id p.2 p.2 (ps.map (·.2.2)) :: X)⟩) (p.1.filter fun q => !(([] : Ents Iid).map (·.2.2)).contains q.2.2).length ?_ ?_
  rotate_left
  rintro z st ⟨ps, sv, X, rfl, hsz, hps, hnd, hcol, hle⟩
  · refine awp_le hle ?_
    clear hle
    refine awp_seq ?_
    refine awp_region_at 0 rfl rfl ?_
    refine zn ?_
    refine goes_done ?_
    refine aops_next (id := id) (rid := h.length + 1) (clock := p.2) (since := p.2) (last := p.2) (seen := ps.map (·.2.2)) (es := p.1.map fun q => (Iid.av q.1, q.2.1, q.2.2)) rfl rfl rfl (by simp) (hol2 _) (fun q hq => ?_) (Nat.le_refl _) (fun hall => ?_) (fun p0 hp0 hns => ?_)
    · obtain ⟨e, he, rfl⟩ := List.mem_map.1 hq
      exact hw.lt e he
    · refine aops_end ?_
      refine zn ?_
      refine goes_done ?_
      simp only [vq, if_true, reduceIte, Nat.reduceEqDiff, reduceCtorEq]
      repeat (first | ((first | refine zd ?_ | refine zx ?_ | refine zk ?_ | refine zl ?_ | refine zr ?_); refine zq ?_) | refine zs ?_ | refine zg ?_ | refine zb ?_ | refine zo ?_ | refine zt ?_ | refine zf ?_)
      first | refine body_all (.inr rfl) (by simp -implicitDefEqProofs; rfl) (by simp -implicitDefEqProofs; rfl) (by first | (simp; done) | (simp; omega) | omega) ?_ | refine body_all (.inl rfl) (by simp -implicitDefEqProofs; rfl) (by simp -implicitDefEqProofs; rfl) (by first | (simp; done) | (simp; omega) | omega) ?_
      repeat (first | ((first | refine zd ?_ | refine zx ?_ | refine zk ?_ | refine zl ?_ | refine zr ?_); refine zq ?_) | refine zs ?_ | refine zg ?_ | refine zb ?_ | refine zo ?_ | refine zt ?_ | refine zf ?_)
      refine body_all (.inr rfl) (by simp -implicitDefEqProofs; rfl) rfl (by simp) ?_
      refine ⟨ps.map (·.1), sv, _, X, rfl, rfl, hcol, ?_⟩
      exact col_all hw hps hnd fun e he => hall _ (List.mem_map.2 ⟨e, he, rfl⟩)
    · obtain ⟨q, hq, rfl⟩ := List.mem_map.1 hp0
      refine aops_end ?_
      refine zn ?_
      refine goes_done ?_
      simp only [vq, if_true, reduceIte, Nat.reduceEqDiff, reduceCtorEq]
      refine awp_seq ?_
      refine awp_cond_t rfl ?_
      refine awp_skip ?_
      simp only [vq, if_true, reduceIte, Nat.reduceEqDiff, reduceCtorEq]
      refine awp_block ?_
      refine awp_seq ?_
      refine awp_region_at 0 rfl rfl ?_
      refine zn ?_
      refine goes_done ?_
      refine aops_entry (id := id) (rid := h.length + 1) (clock := p.2) (since := p.2) (seen := ps.map (·.2.2)) (es := p.1.map fun q => (Iid.av q.1, q.2.1, q.2.2)) (p := (Iid.av q.1, q.2.1, q.2.2)) rfl rfl rfl (by simp) (hol2 _) hp0 (by rw [List.map_map]; exact hw.st) ?_
      refine aops_end ?_
      simp only [Iid.av, Iid.c]
      refine zn ?_
      refine goes_done ?_
      simp only [vq, if_true, reduceIte, Nat.reduceEqDiff, reduceCtorEq]
      repeat (first | ((first | refine zd ?_ | refine zx ?_ | refine zk ?_ | refine zl ?_ | refine zr ?_); refine zq ?_) | refine zs ?_ | refine zg ?_ | refine zb ?_ | refine zo ?_ | refine zt ?_ | refine zf ?_)
      refine goes_yield ⟨rfl, rfl, ?_⟩
      simp only [putAll_cons, putAll_nil]
      refine zg ?_
      refine goes_done ?_
      (try simp only [vq, if_true, reduceIte, Nat.reduceEqDiff, reduceCtorEq])
      refine awp_block ?_
      have hns2 : q.2.2 ∉ ps.map (·.2.2) := hns
      have hlt := flt_lt (f := fun e : Iid × AV × Nat => !((ps ++ [q]).map (·.2.2)).contains e.2.2) (g := fun e : Iid × AV × Nat => !(ps.map (·.2.2)).contains e.2.2) (p := q) (fun x hx => by simp at hx ⊢; exact fun a b hab => hx.1 a b hab) (by simpa using hns2) (by simp) hq
      have hpl : ps.length ≤ 100000 := by omega
      have hps2 : ∀ e ∈ ps ++ [q], e ∈ p.1 := fun e he => by
        rcases List.mem_append.1 he with h | h
        · exact hps e h
        · simp at h; rw [h]; exact hq
      have hnd2 : ((ps ++ [q]).map (·.2.2)).Nodup := by
        rw [List.map_append, List.nodup_append]
        refine ⟨hnd, by simp, fun a ha b hb => ?_⟩
        simp at hb
        rw [hb]
        exact fun e => hns2 (e ▸ ha)
      have hst : ps.map (·.2.2) ++ [q.2.2] = (ps ++ [q]).map (·.2.2) := by simp
      rcases hcol with ⟨hk0, rfl⟩ | ⟨aj, c, cs, rfl, haj, hcl, hkc, hc0, htk⟩
      · have hp0 : ps = [] := by simpa using hk0
        refine awp_region_at 3 rfl rfl ?_
        refine zn ?_
        refine goes_done ?_
        refine aops_append_k (k := 3) (by_ := 24) (m := 0) (c := 0) (cs := []) (zc := [iv 0, iv 0, iv 0]) (z := .agg [iv q.1.e, iv q.1.n, iv q.1.o]) rfl rfl (by simp; rfl) (by simp) (by simp) (by simp [iv]) rfl (by decide) rfl (by simp) .nil (by simp [iv]) (by omega) (by omega) ?_
        refine ⟨fun hlt => absurd hlt (by omega), fun _ c' u hc' hu => ?_⟩
        refine aops_end ?_
        refine zn ?_
        refine goes_done ?_
        (try simp only [vq, if_true, reduceIte, Nat.reduceEqDiff, reduceCtorEq])
        refine zn ?_
        refine goes_done ?_
        (try simp only [vq, if_true, reduceIte, Nat.reduceEqDiff, reduceCtorEq])
        repeat (first | ((first | refine zd ?_ | refine zx ?_ | refine zk ?_ | refine zl ?_ | refine zr ?_); refine zq ?_) | refine zs ?_ | refine zg ?_ | refine zb ?_ | refine zo ?_ | refine zt ?_ | refine zf ?_)
        refine ⟨_, hlt, ps ++ [q], .arr (h.length + (X.length + 2 + 2)) 0 1 c', X ++ [.cells [iv q.1.e, iv q.1.n, iv q.1.o], .cells [iv q.1.e, iv q.1.n, iv q.1.o], .cells (iv q.1.e :: iv q.1.n :: iv q.1.o :: u)], rfl, by simp only [List.length_append, List.length_singleton]; omega, hps2, hnd2, ?_, ?_⟩
        · subst hp0
          exact col_mk (ks := []) (q := q.1) (a := X.length + 2) (c := c') (cs := iv q.1.e :: iv q.1.n :: iv q.1.o :: u) (by simp) (by simp [hu]; omega) (by simpa using hc') (by simp [Iid.c])
        · rw [← hst]
          exact st_keep' (by simp []) (by simp [])
      · have hnk : (ps.map (·.1)).length = ps.length := by simp
        rw [hnk] at hkc htk ⊢
        have hxl : aj < X.length := (List.getElem?_eq_some_iff.1 haj).1
        have hajr : ∀ y, (X ++ y)[aj]? = some (.cells cs) := fun y => by rw [List.getElem?_append_left hxl]; exact haj
        have hajs : ∀ y v, (X ++ y).set aj v = X.set aj v ++ y := fun y v => List.set_append_left _ _ hxl
        clear hxl
        refine awp_region_at 3 rfl rfl ?_
        refine zn ?_
        refine goes_done ?_
        refine aops_append_k (k := 3) (by_ := 24) (m := ps.length) (c := c) (cs := cs) (zc := [iv 0, iv 0, iv 0]) (z := .agg [iv q.1.e, iv q.1.n, iv q.1.o]) rfl rfl (by simp; rfl) (by simp) (by simp) (by simp [iv]) rfl (by decide) rfl (by simp) (.arr _ _ _ _ (by simp [hajr]) hcl hkc hc0) (by simp [iv]) (by omega) (by omega) ?_
        have hov : ∀ n, n * 3 + 3 ≤ cs.length → (V.over cs (n * 3) [iv q.1.e, iv q.1.n, iv q.1.o]).take ((n + 1) * 3) = cs.take (n * 3) ++ [iv q.1.e, iv q.1.n, iv q.1.o] := fun n hn => by
          unfold V.over
          rw [List.take_append_of_le_length (by simp; omega), List.take_of_length_le (by simp; omega)]
        refine ⟨fun hlt2 id' hx => ?_, fun hmc c' u hc' hu => ?_⟩
        · injection hx with hx
          subst hx
          refine aops_end ?_
          refine run_start (goes_eq (by simp -implicitDefEqProofs (disch := (first | omega | (simp; done) | fail)) [if_pos, if_neg, wrap_i64, tmod_pos, tdiv_pos, Int.toNat_add, hajs]; rfl) ?_)
          refine goes_done ?_
          (try simp only [vq, if_true, reduceIte, Nat.reduceEqDiff, reduceCtorEq])
          refine zn ?_
          refine goes_done ?_
          (try simp only [vq, if_true, reduceIte, Nat.reduceEqDiff, reduceCtorEq])
          repeat (first | ((first | refine zd ?_ | refine zx ?_ | refine zk ?_ | refine zl ?_ | refine zr ?_); refine zq ?_) | refine zs ?_ | refine zg ?_ | refine zb ?_ | refine zo ?_ | refine zt ?_ | refine zf ?_)
          refine ⟨_, hlt, ps ++ [q], .arr (h.length + (aj + 2)) 0 (ps.length + 1) c, X.set aj (.cells (V.over cs (ps.length * 3) [iv q.1.e, iv q.1.n, iv q.1.o])) ++ [.cells [iv q.1.e, iv q.1.n, iv q.1.o], .cells [iv q.1.e, iv q.1.n, iv q.1.o]], rfl, by simp only [List.length_append, List.length_singleton]; omega, hps2, hnd2, ?_, ?_⟩
          · have hxl : aj < X.length := (List.getElem?_eq_some_iff.1 haj).1
            have := col_mk (X := X.set aj (.cells (V.over cs (ps.length * 3) [iv q.1.e, iv q.1.n, iv q.1.o])) ++ [.cells [iv q.1.e, iv q.1.n, iv q.1.o], .cells [iv q.1.e, iv q.1.n, iv q.1.o]]) (b := h.length) (ks := ps.map (·.1)) (q := q.1) (a := aj) (c := c) (cs := V.over cs (ps.length * 3) [iv q.1.e, iv q.1.n, iv q.1.o]) (by rw [List.getElem?_append_left (by simpa using hxl)]; simp [hxl]) (by rw [over_len (by simp; omega)]; exact hcl) (by rw [hnk]; omega) (by
              rw [hnk, hov _ (by omega), htk]
              rfl)
            rw [hnk] at this
            simpa using this
          · rw [← hst]
            exact st_keep' (by simp []) (by simp [])
        · subst hmc
          refine aops_end ?_
          refine zn ?_
          refine goes_done ?_
          (try simp only [vq, if_true, reduceIte, Nat.reduceEqDiff, reduceCtorEq])
          refine zn ?_
          refine goes_done ?_
          (try simp only [vq, if_true, reduceIte, Nat.reduceEqDiff, reduceCtorEq])
          repeat (first | ((first | refine zd ?_ | refine zx ?_ | refine zk ?_ | refine zl ?_ | refine zr ?_); refine zq ?_) | refine zs ?_ | refine zg ?_ | refine zb ?_ | refine zo ?_ | refine zt ?_ | refine zf ?_)
          refine ⟨_, hlt, ps ++ [q], .arr (h.length + (X.length + 2 + 2)) 0 (ps.length + 1) c', X ++ [.cells [iv q.1.e, iv q.1.n, iv q.1.o], .cells [iv q.1.e, iv q.1.n, iv q.1.o], .cells (cs ++ [iv q.1.e, iv q.1.n, iv q.1.o] ++ u)], rfl, by simp only [List.length_append, List.length_singleton]; omega, hps2, hnd2, ?_, ?_⟩
          · have := col_mk (X := X ++ [.cells [iv q.1.e, iv q.1.n, iv q.1.o], .cells [iv q.1.e, iv q.1.n, iv q.1.o], .cells (cs ++ [iv q.1.e, iv q.1.n, iv q.1.o] ++ u)]) (b := h.length) (ks := ps.map (·.1)) (q := q.1) (a := X.length + 2) (c := c') (cs := cs ++ [iv q.1.e, iv q.1.n, iv q.1.o] ++ u) (by simp) (by simp [hu, hcl]; omega) (by simpa using hc') (by
              rw [hnk, ← htk, List.take_of_length_le (l := cs) (by omega), List.take_append_of_le_length (by simp; omega), List.take_of_length_le (by simp; omega)]
              rfl)
            rw [hnk] at this
            simpa using this
          · rw [← hst]
            exact st_keep' (by simp []) (by simp [])
  · exact ⟨[], .list [] .full, [], rfl, by have := List.length_filter_le (fun q : Iid × AV × Nat => !(([] : Ents Iid).map (·.2.2)).contains q.2.2) p.1; simp only [List.length_nil, Nat.zero_add]; exact this, (fun q hq => by cases hq), by simp, .inl ⟨rfl, rfl⟩, st_keep' (by simp []) (by simp [])⟩
end Go.Proofs.Ytajgeofhlgoifaa.G

/- Graphs: a map's keys, in order. -/
set_option linter.unusedVariables false
set_option linter.unusedSimpArgs false
set_option maxRecDepth 20000
namespace Go.Proofs.Ytajgeofhlgoifaa.G
open Go Go.Proofs.Ytajgeofhlgoifaa.V Go.Proofs.Ytajgeofhlgoifaa.I Go.Sort Go.RowKit
theorem collectB_ok (p : MS) (hw : WF p) (id mb : Nat) (hl : p.1.length ≤ 100000) (h : AHeap) (hm : h[mb]? = some (.cells [.map id])) (ho : h[id]? = some p.o) :
    ACalls Try.prog 60 [.func (.func 62) [] [.ptr mb 0]] h fun r h' => ∃ ks sv o X, r = sv.strip ∧ h' = h ++ (.cells [sv] :: o :: X) ∧ Col X h.length sv ks ∧ ks.Nodup ∧ ∀ k, k ∈ ks ↔ k ∈ p.1.map (·.1) := by
  refine acalls_of_awp Try.func60 rfl (by simp only [List.length_cons, List.length_nil]; decide) ?_
  simp only [params_cons, params_nil]
  repeat (first | ((first | refine zd ?_ | refine zx ?_ | refine zk ?_ | refine zl ?_ | refine zr ?_); refine zq ?_) | refine zs ?_ | refine zg ?_ | refine zb ?_ | refine zo ?_ | refine zt ?_ | refine zf ?_)
  refine goes_call (callable_of Try.func82) _ (appseqB_ok p hw id mb hl h hm ho) ?_
  rintro _ _ ⟨ks, sv, o, X, rfl, rfl, hcol, hnd, hks⟩
  rcases hcol with ⟨rfl, rfl⟩ | ⟨aj, c, cs, rfl, haj, hcl, hkc, hc0, htk⟩
  · refine ze ?_
    repeat (first | ((first | refine zd ?_ | refine zx ?_ | refine zk ?_ | refine zl ?_ | refine zr ?_); refine zq ?_) | refine zs ?_ | refine zg ?_ | refine zb ?_ | refine zo ?_ | refine zt ?_ | refine zf ?_)
    first | refine body_all (.inr rfl) (by simp -implicitDefEqProofs; rfl) (by simp -implicitDefEqProofs; rfl) (by first | (simp; done) | (simp; omega) | omega) ?_ | refine body_all (.inl rfl) (by simp -implicitDefEqProofs; rfl) (by simp -implicitDefEqProofs; rfl) (by first | (simp; done) | (simp; omega) | omega) ?_
    refine ⟨[], .list [] .full, o, X, rfl, rfl, .inl ⟨rfl, rfl⟩, hnd, hks⟩
  · refine ze ?_
    repeat (first | ((first | refine zd ?_ | refine zx ?_ | refine zk ?_ | refine zl ?_ | refine zr ?_); refine zq ?_) | refine zs ?_ | refine zg ?_ | refine zb ?_ | refine zo ?_ | refine zt ?_ | refine zf ?_)
    first | refine body_all (.inr rfl) (by simp -implicitDefEqProofs; rfl) (by simp -implicitDefEqProofs; rfl) (by first | (simp; done) | (simp; omega) | omega) ?_ | refine body_all (.inl rfl) (by simp -implicitDefEqProofs; rfl) (by simp -implicitDefEqProofs; rfl) (by first | (simp; done) | (simp; omega) | omega) ?_
    refine ⟨ks, _, o, X, rfl, rfl, .inr ⟨aj, c, cs, rfl, haj, hcl, hkc, hc0, htk⟩, hnd, hks⟩
theorem sortedB_ok (p : MS) (hw : WF p) (id mb : Nat) (hl : p.1.length ≤ 100000) (h : AHeap) (hm : h[mb]? = some (.cells [.map id])) (ho : h[id]? = some p.o) :
    ACalls Try.prog 41 [.func (.func 62) [] [.ptr mb 0], .func (.func 33) [] []] h fun r h' => ∃ ks X, r = lv (srt ks) ∧ h' = h ++ X ∧ ks.Nodup ∧ ∀ k, k ∈ ks ↔ k ∈ p.1.map (·.1) := by
  refine acalls_of_awp Try.func41 rfl (by simp only [List.length_cons, List.length_nil]; decide) ?_
  simp only [params_cons, params_nil]
  repeat (first | ((first | refine zd ?_ | refine zx ?_ | refine zk ?_ | refine zl ?_ | refine zr ?_); refine zq ?_) | refine zs ?_ | refine zg ?_ | refine zb ?_ | refine zo ?_ | refine zt ?_ | refine zf ?_)
  refine goes_call (callable_of Try.func60) _ (collectB_ok p hw id mb hl h hm ho) ?_
  rintro _ _ ⟨ks, sv, o, X, rfl, rfl, hcol, hnd, hks⟩
  rcases hcol with ⟨rfl, rfl⟩ | ⟨aj, c, cs, rfl, haj, hcl, hkc, hc0, htk⟩
  · refine ze ?_
    repeat (first | ((first | refine zd ?_ | refine zx ?_ | refine zk ?_ | refine zl ?_ | refine zr ?_); refine zq ?_) | refine zs ?_ | refine zg ?_ | refine zb ?_ | refine zo ?_ | refine zt ?_ | refine zf ?_)
    refine zp (callable_of Try.func61) _ (gsort_nil .no _) ?_
    rintro _ _ ⟨rfl, rfl⟩
    refine ze ?_
    repeat (first | ((first | refine zd ?_ | refine zx ?_ | refine zk ?_ | refine zl ?_ | refine zr ?_); refine zq ?_) | refine zs ?_ | refine zg ?_ | refine zb ?_ | refine zo ?_ | refine zt ?_ | refine zf ?_)
    first | refine body_all (.inr rfl) (by simp -implicitDefEqProofs; rfl) (by simp -implicitDefEqProofs; rfl) (by first | (simp; done) | (simp; omega) | omega) ?_ | refine body_all (.inl rfl) (by simp -implicitDefEqProofs; rfl) (by simp -implicitDefEqProofs; rfl) (by first | (simp; done) | (simp; omega) | omega) ?_
    refine ⟨[], _, ?_, rfl, hnd, hks⟩
    simp [lv, srt]
  · have hkl : ks.length ≤ 1000000 := by
      have := List.Nodup.length_le_of_subset (l₂ := p.1.map (·.1)) hnd fun k hk => (hks k).1 hk
      simp at this
      omega
    refine ze ?_
    repeat (first | ((first | refine zd ?_ | refine zx ?_ | refine zk ?_ | refine zl ?_ | refine zr ?_); refine zq ?_) | refine zs ?_ | refine zg ?_ | refine zb ?_ | refine zo ?_ | refine zt ?_ | refine zf ?_)
    refine zp (callable_of Try.func61) _ (gsort_arr ks (h.length + (aj + 2)) c cs (h ++ (.cells [.arr (h.length + (aj + 2)) 0 ks.length c] :: o :: X)) hkl (by rw [List.getElem?_append_right (by omega)]; simpa using haj) hcl hc0 htk) ?_
    rintro _ _ ⟨rfl, rfl⟩
    rw [set_third]
    refine ze ?_
    refine goes_done ?_
    simp only [vq, if_true, reduceIte, Nat.reduceEqDiff, reduceCtorEq]
    have hle : aj < X.length := (List.getElem?_eq_some_iff.1 haj).1
    refine awp_fixs (id := h.length + (aj + 2)) (n := ks.length) (c := c) (k := 3) (cs := (srt ks).flatMap Iid.c ++ cs.drop (ks.length * 3)) (xs := (srt ks).map Iid.av) (by rw [List.getElem?_append_right (by omega)]; simp [hle]) ?_ (by simp [srt_len]) (uni_map fun _ => rfl) (by omega) ?_ ?_
    · rw [flc_cells, List.take_left' (by rw [flc_len, srt_len])]
    · rw [List.length_append, flc_len, srt_len]; omega
    rw [set_third]
    repeat (first | ((first | refine zd ?_ | refine zx ?_ | refine zk ?_ | refine zl ?_ | refine zr ?_); refine zq ?_) | refine zs ?_ | refine zh (by simp -implicitDefEqProofs (disch := (first | omega | (simp; done) | fail)) [if_pos, if_neg, wrap_i64, tmod_pos, tdiv_pos, Int.toNat_add, Slots.thaw, AV.thaw]; rfl) ?_ | refine zb ?_ | refine zo ?_ | refine zt ?_ | refine zf ?_)
    first | refine body_all (.inr rfl) (by simp -implicitDefEqProofs; rfl) (by simp -implicitDefEqProofs; rfl) (by first | (simp; done) | (simp; omega) | omega) ?_ | refine body_all (.inl rfl) (by simp -implicitDefEqProofs; rfl) (by simp -implicitDefEqProofs; rfl) (by first | (simp; done) | (simp; omega) | omega) ?_
    exact ⟨ks, _, rfl, rfl, hnd, hks⟩
theorem collectA_ok (p : MS) (hw : WF p) (id mb : Nat) (hl : p.1.length ≤ 100000) (h : AHeap) (hm : h[mb]? = some (.cells [.map id])) (ho : h[id]? = some p.o) :
    ACalls Try.prog 60 [.func (.func 69) [] [.ptr mb 0]] h fun r h' => ∃ ks sv o X, r = sv.strip ∧ h' = h ++ (.cells [sv] :: o :: X) ∧ Col X h.length sv ks ∧ ks.Nodup ∧ ∀ k, k ∈ ks ↔ k ∈ p.1.map (·.1) := by
  refine acalls_of_awp Try.func60 rfl (by simp only [List.length_cons, List.length_nil]; decide) ?_
  simp only [params_cons, params_nil]
  repeat (first | ((first | refine zd ?_ | refine zx ?_ | refine zk ?_ | refine zl ?_ | refine zr ?_); refine zq ?_) | refine zs ?_ | refine zg ?_ | refine zb ?_ | refine zo ?_ | refine zt ?_ | refine zf ?_)
  refine goes_call (callable_of Try.func82) _ (appseqA_ok p hw id mb hl h hm ho) ?_
  rintro _ _ ⟨ks, sv, o, X, rfl, rfl, hcol, hnd, hks⟩
  rcases hcol with ⟨rfl, rfl⟩ | ⟨aj, c, cs, rfl, haj, hcl, hkc, hc0, htk⟩
  · refine ze ?_
    repeat (first | ((first | refine zd ?_ | refine zx ?_ | refine zk ?_ | refine zl ?_ | refine zr ?_); refine zq ?_) | refine zs ?_ | refine zg ?_ | refine zb ?_ | refine zo ?_ | refine zt ?_ | refine zf ?_)
    first | refine body_all (.inr rfl) (by simp -implicitDefEqProofs; rfl) (by simp -implicitDefEqProofs; rfl) (by first | (simp; done) | (simp; omega) | omega) ?_ | refine body_all (.inl rfl) (by simp -implicitDefEqProofs; rfl) (by simp -implicitDefEqProofs; rfl) (by first | (simp; done) | (simp; omega) | omega) ?_
    refine ⟨[], .list [] .full, o, X, rfl, rfl, .inl ⟨rfl, rfl⟩, hnd, hks⟩
  · refine ze ?_
    repeat (first | ((first | refine zd ?_ | refine zx ?_ | refine zk ?_ | refine zl ?_ | refine zr ?_); refine zq ?_) | refine zs ?_ | refine zg ?_ | refine zb ?_ | refine zo ?_ | refine zt ?_ | refine zf ?_)
    first | refine body_all (.inr rfl) (by simp -implicitDefEqProofs; rfl) (by simp -implicitDefEqProofs; rfl) (by first | (simp; done) | (simp; omega) | omega) ?_ | refine body_all (.inl rfl) (by simp -implicitDefEqProofs; rfl) (by simp -implicitDefEqProofs; rfl) (by first | (simp; done) | (simp; omega) | omega) ?_
    refine ⟨ks, _, o, X, rfl, rfl, .inr ⟨aj, c, cs, rfl, haj, hcl, hkc, hc0, htk⟩, hnd, hks⟩
theorem sortedA_ok (p : MS) (hw : WF p) (id mb : Nat) (hl : p.1.length ≤ 100000) (h : AHeap) (hm : h[mb]? = some (.cells [.map id])) (ho : h[id]? = some p.o) :
    ACalls Try.prog 41 [.func (.func 69) [] [.ptr mb 0], .func (.func 33) [] []] h fun r h' => ∃ ks X, r = lv (srt ks) ∧ h' = h ++ X ∧ ks.Nodup ∧ ∀ k, k ∈ ks ↔ k ∈ p.1.map (·.1) := by
  refine acalls_of_awp Try.func41 rfl (by simp only [List.length_cons, List.length_nil]; decide) ?_
  simp only [params_cons, params_nil]
  repeat (first | ((first | refine zd ?_ | refine zx ?_ | refine zk ?_ | refine zl ?_ | refine zr ?_); refine zq ?_) | refine zs ?_ | refine zg ?_ | refine zb ?_ | refine zo ?_ | refine zt ?_ | refine zf ?_)
  refine goes_call (callable_of Try.func60) _ (collectA_ok p hw id mb hl h hm ho) ?_
  rintro _ _ ⟨ks, sv, o, X, rfl, rfl, hcol, hnd, hks⟩
  rcases hcol with ⟨rfl, rfl⟩ | ⟨aj, c, cs, rfl, haj, hcl, hkc, hc0, htk⟩
  · refine ze ?_
    repeat (first | ((first | refine zd ?_ | refine zx ?_ | refine zk ?_ | refine zl ?_ | refine zr ?_); refine zq ?_) | refine zs ?_ | refine zg ?_ | refine zb ?_ | refine zo ?_ | refine zt ?_ | refine zf ?_)
    refine zp (callable_of Try.func61) _ (gsort_nil .no _) ?_
    rintro _ _ ⟨rfl, rfl⟩
    refine ze ?_
    repeat (first | ((first | refine zd ?_ | refine zx ?_ | refine zk ?_ | refine zl ?_ | refine zr ?_); refine zq ?_) | refine zs ?_ | refine zg ?_ | refine zb ?_ | refine zo ?_ | refine zt ?_ | refine zf ?_)
    first | refine body_all (.inr rfl) (by simp -implicitDefEqProofs; rfl) (by simp -implicitDefEqProofs; rfl) (by first | (simp; done) | (simp; omega) | omega) ?_ | refine body_all (.inl rfl) (by simp -implicitDefEqProofs; rfl) (by simp -implicitDefEqProofs; rfl) (by first | (simp; done) | (simp; omega) | omega) ?_
    refine ⟨[], _, ?_, rfl, hnd, hks⟩
    simp [lv, srt]
  · have hkl : ks.length ≤ 1000000 := by
      have := List.Nodup.length_le_of_subset (l₂ := p.1.map (·.1)) hnd fun k hk => (hks k).1 hk
      simp at this
      omega
    refine ze ?_
    repeat (first | ((first | refine zd ?_ | refine zx ?_ | refine zk ?_ | refine zl ?_ | refine zr ?_); refine zq ?_) | refine zs ?_ | refine zg ?_ | refine zb ?_ | refine zo ?_ | refine zt ?_ | refine zf ?_)
    refine zp (callable_of Try.func61) _ (gsort_arr ks (h.length + (aj + 2)) c cs (h ++ (.cells [.arr (h.length + (aj + 2)) 0 ks.length c] :: o :: X)) hkl (by rw [List.getElem?_append_right (by omega)]; simpa using haj) hcl hc0 htk) ?_
    rintro _ _ ⟨rfl, rfl⟩
    rw [set_third]
    refine ze ?_
    refine goes_done ?_
    simp only [vq, if_true, reduceIte, Nat.reduceEqDiff, reduceCtorEq]
    have hle : aj < X.length := (List.getElem?_eq_some_iff.1 haj).1
    refine awp_fixs (id := h.length + (aj + 2)) (n := ks.length) (c := c) (k := 3) (cs := (srt ks).flatMap Iid.c ++ cs.drop (ks.length * 3)) (xs := (srt ks).map Iid.av) (by rw [List.getElem?_append_right (by omega)]; simp [hle]) ?_ (by simp [srt_len]) (uni_map fun _ => rfl) (by omega) ?_ ?_
    · rw [flc_cells, List.take_left' (by rw [flc_len, srt_len])]
    · rw [List.length_append, flc_len, srt_len]; omega
    rw [set_third]
    repeat (first | ((first | refine zd ?_ | refine zx ?_ | refine zk ?_ | refine zl ?_ | refine zr ?_); refine zq ?_) | refine zs ?_ | refine zh (by simp -implicitDefEqProofs (disch := (first | omega | (simp; done) | fail)) [if_pos, if_neg, wrap_i64, tmod_pos, tdiv_pos, Int.toNat_add, Slots.thaw, AV.thaw]; rfl) ?_ | refine zb ?_ | refine zo ?_ | refine zt ?_ | refine zf ?_)
    first | refine body_all (.inr rfl) (by simp -implicitDefEqProofs; rfl) (by simp -implicitDefEqProofs; rfl) (by first | (simp; done) | (simp; omega) | omega) ?_ | refine body_all (.inl rfl) (by simp -implicitDefEqProofs; rfl) (by simp -implicitDefEqProofs; rfl) (by first | (simp; done) | (simp; omega) | omega) ?_
    exact ⟨ks, _, rfl, rfl, hnd, hks⟩
end Go.Proofs.Ytajgeofhlgoifaa.G

/- Graphs: nodes in a map. -/
set_option linter.unusedVariables false
set_option linter.unusedSimpArgs false
set_option maxRecDepth 20000
namespace Go.Proofs.Ytajgeofhlgoifaa.G
open Go Go.Proofs.Ytajgeofhlgoifaa.V Go.Proofs.Ytajgeofhlgoifaa.I Go.RowKit
def getE (k : Iid) (es : Ents Iid) : Option AV := (keyAt k es).bind fun j => es[j]?.map (·.2.1)
theorem getE_isSome (k : Iid) (es : Ents Iid) : (getE k es).isSome = (keyAt k es).isSome := by
  unfold getE
  cases h : keyAt k es with
  | none => rfl
  | some j =>
    obtain ⟨hj, _⟩ := keyAt_some h
    simp [hj]
theorem keyAt_app (k : Iid) (p : Iid × AV × Nat) : ∀ es : Ents Iid, keyAt k (es ++ [p]) = match keyAt k es with
    | some j => some j
    | none => if p.1 = k then some es.length else none
  | [] => by simp [keyAt]
  | q :: es => by
    rw [List.cons_append]
    unfold keyAt
    rw [keyAt_app k p es]
    by_cases h : q.1 = k
    · simp [h]
    · simp only [h, if_false]
      cases keyAt k es with
      | some j => rfl
      | none => by_cases h2 : p.1 = k <;> simp [h2]
theorem keyAt_modify (k : Iid) (f : AV → AV) : ∀ (es : Ents Iid) (j : Nat), keyAt k (es.modify j fun p => (p.1, f p.2.1, p.2.2)) = keyAt k es
  | [], j => by cases j <;> rfl
  | q :: es, 0 => by simp [keyAt]
  | q :: es, j + 1 => by
    rw [List.modify_succ_cons]
    unfold keyAt
    rw [keyAt_modify k f es j]
theorem getE_put (k k' : Iid) (x : AV) (c : Nat) (es : Ents Iid) : getE k (putE k' x c es) = if k' = k then some x else getE k es := by
  unfold getE putE
  cases h : keyAt k' es with
  | none =>
    simp only
    rw [keyAt_app]
    by_cases e : k' = k
    · subst e
      rw [h]
      simp
    · rw [if_neg e]
      cases h2 : keyAt k es with
      | none => simp [e]
      | some j =>
        obtain ⟨hj, _⟩ := keyAt_some h2
        simp [hj, e, List.getElem?_append_left hj]
  | some j =>
    simp only
    obtain ⟨hj, hk⟩ := keyAt_some h
    rw [keyAt_modify k (fun _ => x) es j]
    by_cases e : k' = k
    · subst e
      rw [h]
      simp [hj]
    · rw [if_neg e]
      cases h2 : keyAt k es with
      | none => rfl
      | some i =>
        obtain ⟨hi, hk2⟩ := keyAt_some h2
        have hij : j ≠ i := fun he => by subst he; exact e (hk.symm.trans hk2)
        simp [List.getElem?_modify, hij, Function.comp_def]
theorem wf_put {p : MS} (h : WF p) (k : Iid) (v : AV) : WF (putE k v p.2 p.1, putC k p.2 p.1) ∧ (∀ x, x ∈ keys (putE k v p.2 p.1, putC k p.2 p.1) ↔ x ∈ keys p ∨ x = k) ∧ (putE k v p.2 p.1).length = p.1.length + (if k ∈ keys p then 0 else 1) := by
  obtain ⟨es, c⟩ := p
  unfold putE putC keys
  cases hk : keyAt k es with
  | none =>
    have hn := keyAt_none.1 hk
    have hnk : k ∉ es.map (·.1) := fun h => by
      obtain ⟨e, he, e2⟩ := List.mem_map.1 h
      exact hn e he e2
    refine ⟨⟨?_, ?_, ?_⟩, ?_, by simp only [hnk, if_false]; simp⟩
    · simp only [List.map_append, List.map_cons, List.map_nil]
      rw [List.nodup_append]
      refine ⟨h.st, by simp, fun a ha b hb => ?_⟩
      simp at hb
      obtain ⟨e, he, rfl⟩ := List.mem_map.1 ha
      have h5 := h.lt e he
      simp only at h5
      omega
    · intro e he
      rcases List.mem_append.1 he with he | he
      · exact Nat.lt_succ_of_lt (h.lt e he)
      · simp at he; rw [he]; exact Nat.lt_succ_self _
    · simp only [List.map_append, List.map_cons, List.map_nil]
      rw [List.nodup_append]
      refine ⟨h.ky, by simp, fun a ha b hb => ?_⟩
      simp at hb
      obtain ⟨e, he, rfl⟩ := List.mem_map.1 ha
      rw [hb]
      exact hn e he
    · intro x
      simp
  | some j =>
    obtain ⟨hj, e⟩ := keyAt_some hk
    have hkm : k ∈ es.map (·.1) := List.mem_map.2 ⟨es[j], List.getElem_mem hj, e⟩
    refine ⟨⟨?_, ?_, ?_⟩, ?_, by simp only [hkm, if_true]; simp⟩
    · simp only
      rw [modify_map (f := fun q : Iid × AV × Nat => (q.1, v, q.2.2)) (g := fun e : Iid × AV × Nat => e.2.2) (fun _ => rfl)]
      exact h.st
    · intro x hx
      have e1 : x.2.2 ∈ (es.modify j fun q => (q.1, v, q.2.2)).map (·.2.2) := List.mem_map.2 ⟨x, hx, rfl⟩
      rw [modify_map (f := fun q : Iid × AV × Nat => (q.1, v, q.2.2)) (g := fun e : Iid × AV × Nat => e.2.2) (fun _ => rfl)] at e1
      obtain ⟨y, hy, e2⟩ := List.mem_map.1 e1
      have := h.lt y hy
      simp only at this ⊢
      omega
    · simp only
      rw [modify_map (f := fun q : Iid × AV × Nat => (q.1, v, q.2.2)) (g := fun e : Iid × AV × Nat => e.1) (fun _ => rfl)]
      exact h.ky
    · intro x
      simp only
      rw [modify_map (f := fun q : Iid × AV × Nat => (q.1, v, q.2.2)) (g := fun e : Iid × AV × Nat => e.1) (fun _ => rfl)]
      refine ⟨fun h => .inl h, fun h => ?_⟩
      rcases h with h | rfl
      · exact h
      · exact hkm
structure Nod where
  id : Iid
  seq : Int
  deps : List Iid
  deriving DecidableEq
def atc (s : Int) (d : List Iid) : List AV := [iv s, .list (d.map Iid.av) .no]
def atv (s : Int) (d : List Iid) : AV := .agg (atc s d)
def Nod.c (x : Nod) : List AV := [iv x.id.e, iv x.id.n, iv x.id.o, iv x.seq, .list (x.deps.map Iid.av) .no]
def Nod.av (x : Nod) : AV := .agg x.c
def nodS (p : MS) (x : Nod) : MS := (putE x.id (atv x.seq x.deps) p.2 p.1, putC x.id p.2 p.1)
def nodP (l : List Nod) : MS := l.foldl nodS ([], 0)
theorem nodP_snoc (l : List Nod) (x : Nod) : nodP (l ++ [x]) = nodS (nodP l) x := by simp [nodP]
def findN (k : Iid) (l : List Nod) : Option Nod := l.reverse.find? fun x => decide (x.id = k)
structure NodOk (l : List Nod) : Prop where
  wf : WF (nodP l)
  ky : ∀ k, k ∈ keys (nodP l) ↔ k ∈ l.map (·.id)
  get : ∀ k, getE k (nodP l).1 = (findN k l).map fun x => atv x.seq x.deps
  le : (nodP l).1.length ≤ l.length
  eq : (nodP l).1.length = l.length ↔ (l.map (·.id)).Nodup
theorem snoc_ind {β : Type} {Q : List β → Prop} (h0 : Q []) (h1 : ∀ l x, Q l → Q (l ++ [x])) (l : List β) : Q l := by
  have : ∀ m : List β, Q m.reverse := fun m => by
    induction m with
    | nil => exact h0
    | cons x m ih => rw [List.reverse_cons]; exact h1 _ x ih
  have := this l.reverse
  rwa [List.reverse_reverse] at this
theorem nod_ok (l : List Nod) : NodOk l := by
  induction l using snoc_ind with
  | h0 => exact ⟨wf0, fun k => by simp [nodP, keys], fun k => rfl, by simp [nodP], by simp [nodP]⟩
  | h1 l x ih =>
    obtain ⟨w1, w2, w3⟩ := wf_put ih.wf x.id (atv x.seq x.deps)
    refine ⟨by rw [nodP_snoc]; exact w1, fun k => ?_, fun k => ?_, ?_, ?_⟩
    · rw [nodP_snoc]
      refine (w2 k).trans ?_
      rw [ih.ky]; simp
    · rw [nodP_snoc]
      show getE k (putE x.id _ _ _) = _
      rw [getE_put, ih.get]
      unfold findN
      by_cases e : x.id = k
      · simp [e]
      · simp [e]
    · rw [nodP_snoc]
      show (putE x.id _ _ _).length ≤ _
      have := ih.le
      rw [w3]; simp; split <;> omega
    · rw [nodP_snoc]
      show (putE x.id _ _ _).length = _ ↔ _
      have h1 := ih.le
      have h2 := ih.eq
      have h3 := ih.ky x.id
      rw [w3, List.map_append, List.nodup_append]
      simp only [List.length_append, List.length_singleton, List.map_cons, List.map_nil]
      by_cases hm : x.id ∈ keys (nodP l)
      · rw [if_pos hm]
        constructor
        · intro h; omega
        · rintro ⟨_, _, h⟩
          exact absurd rfl (h x.id (h3.1 hm) x.id (by simp))
      · rw [if_neg hm]
        constructor
        · intro h
          refine ⟨h2.1 (by omega), by simp, fun a ha b hb e => ?_⟩
          simp at hb; subst hb; subst e
          exact hm (h3.2 ha)
        · rintro ⟨h, _⟩
          have := h2.2 h; omega
def validB (l : List Nod) : Bool := decide (l.map (·.id)).Nodup && decide (l.length ≤ 1024)
theorem done_get (k : Iid) (l : List Iid) : lookE (.bool false) k (ms l).1 = .bool (decide (k ∈ l)) := by
  have hm := ms_mem l k
  have ha := ms_all l
  unfold lookE
  cases hk : keyAt k (ms l).1 with
  | none =>
    have hn := keyAt_none.1 hk
    have : k ∉ l := fun h => by
      obtain ⟨e, he, e2⟩ := List.mem_map.1 (hm.2 h)
      exact hn e he e2
    simp [this]
  | some j =>
    obtain ⟨hj, e⟩ := keyAt_some hk
    have h1 : k ∈ l := hm.1 (List.mem_map.2 ⟨_, List.getElem_mem hj, e⟩)
    have h2 := ha _ (List.getElem_mem hj)
    simp [hj, h1, h2]
end Go.Proofs.Ytajgeofhlgoifaa.G

/- Graphs: what is given, as maps. -/
set_option linter.unusedVariables false
set_option linter.unusedSimpArgs false
set_option maxRecDepth 20000
namespace Go.Proofs.Ytajgeofhlgoifaa.G
open Go Go.Proofs.Ytajgeofhlgoifaa.V Go.Proofs.Ytajgeofhlgoifaa.I Go.RowKit
theorem nod_uni (l : List Nod) : uni 5 (l.map Nod.av) = true := uni_map fun _ => rfl
theorem iid_uni (l : List Iid) : uni 3 (l.map Iid.av) = true := uni_map fun _ => rfl
/-- The maps of nodes, and of what is done. -/
structure Net (h : AHeap) (l : List Nod) (dn : List Iid) (i1 i2 : Nat) : Prop where
  nodes : h[i1]? = some (nodP l).o
  done : h[i2]? = some (ms dn).o
def bxs : AObj := .cells [.nilmap, .nilmap]
theorem of_ok (l : List Nod) (dn : List Iid) (tl td : Tok) (hl : l.length ≤ 100000) (hd : dn.length ≤ 100000) (h : AHeap) : ACalls Try.prog 28 [.list (l.map Nod.av) tl, .list (dn.map Iid.av) td] h fun r h' =>
    r = .tuple [.agg [.map (h.length + 1), .map (h.length + 2)], .bool (validB l)] ∧ ∃ a X, h' = h ++ (a :: (nodP l).o :: (ms dn).o :: X) := by
  have hu := nod_uni l
  have hu2 := iid_uni dn
  refine acalls_of_awp Try.func28 rfl (by simp only [List.length_cons, List.length_nil]; decide) ?_
  simp only [params_cons, params_nil]
  refine awp_seq ?_
  refine zg ?_
  refine goes_done ?_
  (try simp only [vq, if_true, reduceIte, Nat.reduceEqDiff, reduceCtorEq])
  refine awp_seq ?_
  refine awp_region_at 0 rfl rfl ?_
  refine zn ?_
  refine goes_done ?_
  refine aops_makeMap rfl rfl ?_
  refine aops_makeMap rfl rfl ?_
  refine aops_end ?_
  refine zn ?_
  refine goes_done ?_
  simp only [vq, if_true, reduceIte, Nat.reduceEqDiff, reduceCtorEq]
  repeat (first | ((first | refine zd ?_ | refine zx ?_ | refine zk ?_ | refine zl ?_ | refine zr ?_); refine zq ?_) | refine zs ?_ | refine zg ?_ | refine zb ?_ | refine zo ?_ | refine zt ?_ | refine zf ?_)
  refine awp_loop (fun z st => ∃ (i : Nat) (X : AHeap), z = l.length - i ∧ i ≤ l.length ∧ st.le ⟨Try.f28.ntmps, [(0, .list (l.map Nod.av) tl), (1, .list (dn.map Iid.av) td), (4, .ptr h.length 0), (6, .ptr (h.length + 3) 0), (14, .list (l.map Nod.av) tl), (15, iv (l.length : Nat)), (16, iv (i : Nat))], h ++ (bxs :: (nodP (l.take i)).o :: (MS.o ([], 0)) :: .cells [.map (h.length + 1), .map (h.length + 2)] :: X)⟩) l.length ?_ ?_
  rotate_left
  rintro z st ⟨i, X, rfl, hi, hle⟩
  · refine awp_le hle ?_
    clear hle
    unfold bxs
    by_cases h9 : i = l.length
    · subst h9
      have q : ¬ (l.length : Int) < (l.length : Int) := by omega
      rw [List.take_length]
      repeat (first | ((first | refine zd ?_ | refine zx ?_ | refine zk ?_ | refine zl ?_ | refine zr ?_); refine zq ?_) | refine zs ?_ | refine zh (by simp -implicitDefEqProofs (disch := (first | omega | (simp; done) | fail)) [if_pos, if_neg, wrap_i64, tmod_pos, tdiv_pos, Int.toNat_add, q]; rfl) ?_ | refine zb ?_ | refine zo ?_ | refine zt ?_ | refine zf ?_)
      generalize hp : nodP l = p at *
      have hpl : (nodP l).1.length = l.length ↔ (l.map (·.id)).Nodup := (nod_ok l).eq
      rw [hp] at hpl
      refine awp_loop (fun z st => ∃ (i : Nat) (X : AHeap), z = dn.length - i ∧ i ≤ dn.length ∧ st.le ⟨Try.f28.ntmps, [(0, .list (l.map Nod.av) tl), (4, .ptr h.length 0), (6, .ptr (h.length + 3) 0), (27, .list (dn.map Iid.av) td), (28, iv (dn.length : Nat)), (29, iv (i : Nat))], h ++ (bxs :: p.o :: (ms (dn.take i)).o :: .cells [.map (h.length + 1), .map (h.length + 2)] :: X)⟩) dn.length ?_ ?_
      rotate_left
      rintro z st ⟨i, X, rfl, hi, hle⟩
      · refine awp_le hle ?_
        clear hle
        unfold bxs
        by_cases h9 : i = dn.length
        · subst h9
          have q : ¬ (dn.length : Int) < (dn.length : Int) := by omega
          rw [List.take_length]
          refine awp_seq ?_
          refine zh (by simp -implicitDefEqProofs (disch := (first | omega | (simp; done) | fail)) [if_pos, if_neg, wrap_i64, tmod_pos, tdiv_pos, Int.toNat_add, q]; rfl) ?_
          refine goes_done ?_
          (try simp only [vq, if_true, reduceIte, Nat.reduceEqDiff, reduceCtorEq])
          refine awp_seq ?_
          refine awp_cond_f rfl ?_
          refine awp_exit ?_
          (try simp only [vq, if_true, reduceIte, Nat.reduceEqDiff, reduceCtorEq])
          refine awp_seq ?_
          refine awp_region_at 3 rfl rfl ?_
          refine zn ?_
          refine goes_done ?_
          refine aops_lenm (id := h.length + 1) (es := p.1.map fun q => (Iid.av q.1, q.2.1, q.2.2)) (clock := p.2) rfl rfl Try.underlying53 rfl (by simp [MS.o, mapO]) ?_
          rw [List.length_map]
          refine aops_end ?_
          by_cases hv : p.1.length = l.length
          · have e1 : ((p.1.length : Int) == (l.length : Int)) = true := by rw [hv]; simp
            refine run_start (goes_eq (by simp -implicitDefEqProofs (disch := (first | omega | (simp; done) | fail)) [if_pos, if_neg, wrap_i64, tmod_pos, tdiv_pos, Int.toNat_add, e1]; rfl) ?_)
            refine goes_done ?_
            (try simp only [vq, if_true, reduceIte, Nat.reduceEqDiff, reduceCtorEq])
            repeat (first | ((first | refine zd ?_ | refine zx ?_ | refine zk ?_ | refine zl ?_ | refine zr ?_); refine zq ?_) | refine zs ?_ | refine zg ?_ | refine zb ?_ | refine zo ?_ | refine zt ?_ | refine zf ?_)
            first | refine body_all (.inr rfl) (by simp -implicitDefEqProofs; rfl) (by simp -implicitDefEqProofs; rfl) (by first | (simp; done) | (simp; omega) | omega) ?_ | refine body_all (.inl rfl) (by simp -implicitDefEqProofs; rfl) (by simp -implicitDefEqProofs; rfl) (by first | (simp; done) | (simp; omega) | omega) ?_
            refine ⟨?_, _, _, rfl⟩
            simp [validB, hpl.1 hv]
            omega
          · have e1 : ((p.1.length : Int) == (l.length : Int)) = false := by simp; omega
            refine run_start (goes_eq (by simp -implicitDefEqProofs (disch := (first | omega | (simp; done) | fail)) [if_pos, if_neg, wrap_i64, tmod_pos, tdiv_pos, Int.toNat_add, e1]; rfl) ?_)
            refine goes_done ?_
            (try simp only [vq, if_true, reduceIte, Nat.reduceEqDiff, reduceCtorEq])
            repeat (first | ((first | refine zd ?_ | refine zx ?_ | refine zk ?_ | refine zl ?_ | refine zr ?_); refine zq ?_) | refine zs ?_ | refine zg ?_ | refine zb ?_ | refine zo ?_ | refine zt ?_ | refine zf ?_)
            first | refine body_all (.inr rfl) (by simp -implicitDefEqProofs; rfl) (by simp -implicitDefEqProofs; rfl) (by first | (simp; done) | (simp; omega) | omega) ?_ | refine body_all (.inl rfl) (by simp -implicitDefEqProofs; rfl) (by simp -implicitDefEqProofs; rfl) (by first | (simp; done) | (simp; omega) | omega) ?_
            refine ⟨?_, _, _, rfl⟩
            have : ¬ (l.map (·.id)).Nodup := fun h => hv (hpl.2 h)
            simp [validB, this]
        have hlt : i < dn.length := by omega
        have q : (i : Int) < (dn.length : Int) := by omega
        have hx2 : (dn.map Iid.av)[i]? = some (Iid.av dn[i]) := by simp [hlt]
        have htk : ms (dn.take (i + 1)) = (putE dn[i] (.bool true) (ms (dn.take i)).2 (ms (dn.take i)).1, putC dn[i] (ms (dn.take i)).2 (ms (dn.take i)).1) := by rw [List.take_succ_eq_append_getElem hlt]; exact putL_snoc _ _ _
        have hi1 : i + 1 ≤ dn.length := hlt
        have h21 : dn.length - (i + 1) < dn.length - i := by omega
        generalize dn[i] = k at *
        generalize ms (dn.take i) = e at *
        clear hlt
        refine awp_seq ?_
        refine zh (by simp -implicitDefEqProofs (disch := (first | omega | (simp; done) | fail)) [if_pos, if_neg, wrap_i64, tmod_pos, tdiv_pos, Int.toNat_add, q]; rfl) ?_
        refine goes_done ?_
        (try simp only [vq, if_true, reduceIte, Nat.reduceEqDiff, reduceCtorEq])
        refine awp_seq ?_
        refine awp_cond_t rfl ?_
        refine awp_skip ?_
        simp only [vq, if_true, reduceIte, Nat.reduceEqDiff, reduceCtorEq]
        refine awp_seq ?_
        refine awp_block ?_
        refine awp_seq ?_
        refine zh (by simp -implicitDefEqProofs (disch := (first | omega | (simp; done) | fail)) [if_pos, if_neg, wrap_i64, tmod_pos, tdiv_pos, Int.toNat_add, hx2, hu2, Iid.av, Iid.c]; rfl) ?_
        refine goes_done ?_
        (try simp only [vq, if_true, reduceIte, Nat.reduceEqDiff, reduceCtorEq])
        refine awp_region_at 3 rfl rfl ?_
        refine zn ?_
        refine goes_done ?_
        refine aops_put (id := h.length + 2) (es := e.1) (clock := e.2) (k := k) (v := .bool true) iid_key rfl rfl rfl Try.underlying54 rfl rfl rfl (by simp [MS.o]) ?_
        refine aops_end ?_
        refine zn ?_
        refine goes_done ?_
        simp only [vq, if_true, reduceIte, Nat.reduceEqDiff, reduceCtorEq]
        repeat (first | ((first | refine zd ?_ | refine zx ?_ | refine zk ?_ | refine zl ?_ | refine zr ?_); refine zq ?_) | refine zs ?_ | refine zg ?_ | refine zb ?_ | refine zo ?_ | refine zt ?_ | refine zf ?_)
        refine ⟨dn.length - (i + 1), h21, i + 1, X ++ [.cells k.c], rfl, hi1, ?_⟩
        rw [htk]
        exact st_keep' (by simp [MS.o, Iid.c, bxs]) (by simp [MS.o, Iid.c, bxs])
      · exact ⟨0, X, rfl, by omega, st_keep' (by simp [putL, ms, bxs]) (by simp [putL, ms, bxs])⟩
    have hlt : i < l.length := by omega
    have q : (i : Int) < (l.length : Int) := by omega
    have hx2 : (l.map Nod.av)[i]? = some (Nod.av l[i]) := by simp [hlt]
    have htk : nodP (l.take (i + 1)) = nodS (nodP (l.take i)) l[i] := by rw [List.take_succ_eq_append_getElem hlt, nodP_snoc]
    have hi1 : i + 1 ≤ l.length := hlt
    have h21 : l.length - (i + 1) < l.length - i := by omega
    generalize l[i] = x at *
    generalize nodP (l.take i) = p at *
    clear hlt
    refine awp_seq ?_
    refine zh (by simp -implicitDefEqProofs (disch := (first | omega | (simp; done) | fail)) [if_pos, if_neg, wrap_i64, tmod_pos, tdiv_pos, Int.toNat_add, q]; rfl) ?_
    refine goes_done ?_
    (try simp only [vq, if_true, reduceIte, Nat.reduceEqDiff, reduceCtorEq])
    refine awp_seq ?_
    refine awp_cond_t rfl ?_
    refine awp_skip ?_
    simp only [vq, if_true, reduceIte, Nat.reduceEqDiff, reduceCtorEq]
    refine awp_seq ?_
    refine awp_block ?_
    refine awp_seq ?_
    refine zh (by simp -implicitDefEqProofs (disch := (first | omega | (simp; done) | fail)) [if_pos, if_neg, wrap_i64, tmod_pos, tdiv_pos, Int.toNat_add, hx2, hu, Nod.av, Nod.c]; rfl) ?_
    refine goes_done ?_
    (try simp only [vq, if_true, reduceIte, Nat.reduceEqDiff, reduceCtorEq])
    refine awp_region_at 6 rfl rfl ?_
    refine zn ?_
    refine goes_done ?_
    refine aops_put (id := h.length + 1) (es := p.1) (clock := p.2) (k := x.id) (v := atv x.seq x.deps) iid_key rfl rfl rfl Try.underlying53 rfl rfl rfl (by simp [MS.o]) ?_
    refine aops_end ?_
    refine zn ?_
    refine goes_done ?_
    simp only [vq, if_true, reduceIte, Nat.reduceEqDiff, reduceCtorEq]
    repeat (first | ((first | refine zd ?_ | refine zx ?_ | refine zk ?_ | refine zl ?_ | refine zr ?_); refine zq ?_) | refine zs ?_ | refine zg ?_ | refine zb ?_ | refine zo ?_ | refine zt ?_ | refine zf ?_)
    refine ⟨l.length - (i + 1), h21, i + 1, X ++ [.cells x.c], rfl, hi1, ?_⟩
    rw [htk]
    exact st_keep' (by simp [nodS, MS.o, Nod.c, bxs]) (by simp [nodS, MS.o, Nod.c, bxs])
  · exact ⟨0, [], rfl, by omega, st_keep' (by simp [nodP, MS.o, mapO, bxs]) (by simp [nodP, MS.o, mapO, bxs])⟩
end Go.Proofs.Ytajgeofhlgoifaa.G
