import Derived.Test.YtajgeofhlgoifaaIA
import Derived.Shelf.SlSortCmp.NoneTotal
import Derived.Test.YtajgeofhlgoifaaV30
/- Sets of instances: sorting. -/
set_option linter.unusedVariables false
set_option linter.unusedSimpArgs false
set_option maxRecDepth 20000
namespace Go.Proofs.Ytajgeofhlgoifaa.I
open Go Go.Proofs.Ytajgeofhlgoifaa.V Go.Sort Go.RowKit
instance : Inhabited Iid := ⟨⟨0, 0, 0⟩⟩
def enc (x : Iid) : List Value := [.int .i64 x.e, .int .i64 x.n, .int .i64 x.o]
def cz (x : Iid) (i : Nat) : Int := if i = 0 then x.e else if i = 1 then x.n else x.o
theorem c_at (x : Iid) {i : Nat} (h : i < 3) : x.c[i]? = some (iv (cz x i)) := by
  have : i = 0 ∨ i = 1 ∨ i = 2 := by omega
  rcases this with rfl | rfl | rfl <;> rfl
theorem enc_at (x : Iid) {i : Nat} (h : i < 3) : (enc x)[i]! = .int .i64 (cz x i) := by
  have : i = 0 ∨ i = 1 ∨ i = 2 := by omega
  rcases this with rfl | rfl | rfl <;> rfl
theorem flc : ∀ (ks : List Iid) (j : Nat), (ks.flatMap Iid.c)[j]? = (ks[j / 3]?).bind fun x => x.c[j % 3]?
  | [], j => by simp
  | x :: ks, j => by
    rw [List.flatMap_cons]
    by_cases h : j < 3
    · rw [List.getElem?_append_left (by simpa [Iid.c] using h)]
      have h1 : j / 3 = 0 := by omega
      have h2 : j % 3 = j := by omega
      simp [h1, h2]
    · rw [List.getElem?_append_right (by simp [Iid.c]; omega), show (Iid.c x).length = 3 from rfl, flc ks (j - 3)]
      have h1 : j / 3 = (j - 3) / 3 + 1 := by omega
      have h2 : j % 3 = (j - 3) % 3 := by omega
      simp [h1, h2]
theorem flc_some {ks : List Iid} {j : Nat} (h : j < ks.length * 3) : (ks.flatMap Iid.c)[j]? = some (iv (cz ks[j / 3]! (j % 3))) := by
  have h1 : j / 3 < ks.length := by omega
  rw [flc, List.getElem?_eq_getElem h1, Option.bind_some, getElem!_pos ks (j / 3) h1]
  exact c_at _ (by omega)
theorem flat_at {ks : List Iid} {j : Nat} (h : j < ks.length * 3) : (flatK enc 3 ks.toArray)[j]! = .int .i64 (cz ks[j / 3]! (j % 3)) := by
  rw [get_flatK _ _ _ _ (by simpa using h), enc_at _ (by omega)]
  simp
theorem flc_len (ks : List Iid) : (ks.flatMap Iid.c).length = ks.length * 3 := by
  induction ks with
  | nil => rfl
  | cons x ks ih => rw [List.flatMap_cons, List.length_append, ih]; simp [Iid.c]; omega
theorem lt_less (a b : Iid) : ltOf ordI a b = lessB a b := ord_less a b
theorem ord_swo : SWO (ltOf ordI) where
  irrefl x := by rw [lt_less]; simp [lessB]
  trans x y z h1 h2 := by rw [lt_less] at *; simp [lessB] at *; omega
  ntrans x y z h1 h2 := by rw [lt_less] at *; simp [lessB] at *; omega
theorem ord_total (x y : Iid) (h1 : ltOf ordI x y = false) (h2 : ltOf ordI y x = false) : x = y := by
  rw [lt_less] at *
  obtain ⟨a, b, c⟩ := x
  obtain ⟨a', b', c'⟩ := y
  simp [lessB] at *
  omega
theorem grown_of {w w' : World} (hb : Below w.heap.size w w') (hd : w.drawn ≤ w'.drawn) : ∃ q os', w' = grow (w.drewN q) os' := by
  obtain ⟨q, hq⟩ := Nat.exists_eq_add_of_le hd
  refine ⟨q, w'.heap.extract w.heap.size w'.heap.size, ?_⟩
  have hh : w.heap ++ w'.heap.extract w.heap.size w'.heap.size = w'.heap := by
    apply Array.ext_getElem?
    intro i
    by_cases h : i < w.heap.size
    · rw [Array.getElem?_append_left h, hb.block i h]
    · rw [Array.getElem?_append_right (by omega), Array.getElem?_extract]
      by_cases h2 : i < w'.heap.size
      · rw [if_pos (by have := hb.size; omega), show w.heap.size + (i - w.heap.size) = i by omega]
      · rw [if_neg (by omega)]
        symm
        simp; omega
  have e := hb.os; have e2 := hb.tape; have e3 := hb.output
  cases w' with | mk a b c d e0 =>
  cases w with | mk a' b' c' d' e' =>
  simp only [grow, World.drewN] at *
  simp_all
theorem order_lays (blk off size : Nat) (w : World) : CmpLays Try.prog 47 #[] enc 3 ordI blk off size w := fun m os dk hs x y => by
  generalize sortWorldK enc 3 w blk off m dk os = W
  refine (order_ok x y [] W (g0 W) W #[.agg (enc x).toArray, .agg (enc y).toArray] (cells_cons (iid_back _ x) (cells_cons (iid_back _ y) ⟨rfl, fun i h => absurd h (by simp)⟩)) (sim0 W)).mono ?_
  rintro e w' ⟨r, v, h', g', rfl, l, hr, S, rfl, -⟩
  exact ⟨by rw [hr.int_eq], grown_of S.below S.drawn⟩
end Go.Proofs.Ytajgeofhlgoifaa.I

/- Sets of instances: sorting, as a contract. -/
set_option linter.unusedVariables false
set_option linter.unusedSimpArgs false
set_option maxRecDepth 20000
namespace Go.Proofs.Ytajgeofhlgoifaa.I
open Go Go.Proofs.Ytajgeofhlgoifaa.V Go.Sort Go.RowKit
def srt (ks : List Iid) : List Iid := ks.mergeSort fun x y => !(ltOf ordI y x)
theorem srt_len (ks : List Iid) : (srt ks).length = ks.length := List.length_mergeSort _
theorem srt_mem (ks : List Iid) (k : Iid) : k ∈ srt ks ↔ k ∈ ks := List.mem_mergeSort
theorem cells_cell {w : World} {b i : Nat} {vs : Array Value} {t : TypeId} (e : w.heap[b]? = some (.cells vs t (0, 0))) : w.cell? ⟨b, i, none⟩ = vs[i]? := by
  simp [World.cell?, e]
theorem sort_arr (ks : List Iid) (aid c : Nat) (cs : List AV) (h : AHeap) (hk : ks.length ≤ 1000000) (ho : h[aid]? = some (.cells cs)) (hc : cs.length = c * 3) (h0 : 0 < c) (htk : cs.take (ks.length * 3) = ks.flatMap Iid.c) :
    ACalls Try.prog 61 [.arr aid 0 ks.length c, .func (.func 47) [] []] h fun r h' => r = .tuple [] ∧ h' = h.set aid (.cells ((srt ks).flatMap Iid.c ++ cs.drop (ks.length * 3))) := fun w0 g w vs hv S => by
  obtain ⟨v, u, rfl, hva, hvf⟩ := vals_two hv
  obtain ⟨hid, b, o, hb, hle, hm, hoff, rfl⟩ := hva.arr_eq
  obtain rfl : o = 0 := hoff h0
  have hu : u = .func (.func 47) #[] #[] := by
    cases hvf with
    | func fn first captured f c hf hc h1 h2 =>
      have e1 : f = #[] := Array.eq_empty_of_size_eq_zero hf.symm
      have e2 : c = #[] := Array.eq_empty_of_size_eq_zero hc.symm
      rw [e1, e2]
  subst hu
  have hO := S.obj aid _ ho
  rw [hb] at hO
  obtain ⟨hbase, ⟨cv, t, hh, hrel⟩, him⟩ := hO
  have hbl : b < w.heap.size := (Array.getElem?_eq_some_iff.1 hh).1
  have hsz : cv.size = c * 3 := by have h5 : cs.length = cv.toList.length := hrel.1; have h6 : cv.toList.length = cv.size := Array.length_toList; omega
  have hfl : ∀ i, w.frozen? ⟨b, i, none⟩ = false := fun i => frozen_no hh
  have hget : ∀ j, j < ks.length * 3 → cv[j]? = some (.int .i64 (cz ks[j / 3]! (j % 3))) := fun j hj => by
    have h1 : j < cs.length := by omega
    have h2 : j < cv.toList.length := by simp; omega
    have h3 := hrel.2 j h1 h2
    have h4 : cs[j]? = some (iv (cz ks[j / 3]! (j % 3))) := by
      rw [← flc_some hj, ← htk, List.getElem?_take, if_pos hj]
    rw [List.getElem?_eq_getElem h1] at h4
    injection h4 with h4
    rw [h4] at h3
    have h7 := h3.int_eq
    have h8 : j < cv.size := by omega
    rw [Array.getElem?_eq_getElem h8]
    rw [Array.getElem_toList] at h7
    rw [h7]
  have hH : HoldsK enc 3 w b 0 ks.toArray := fun j hj => by
    have hj' : j < ks.length * 3 := by simpa using hj
    refine ⟨?_, hfl _⟩
    rw [Nat.zero_add, cells_cell hh, hget j hj', flat_at hj']
    rfl
  have hcall := AnyQ.slices_SortFunc_total (P := Try.prog) Try.sortL 3 Try.isAgg25 Try.sizeOf25 enc (fun _ => rfl) (fun x v hv => by simp [enc] at hv; rcases hv with rfl | rfl | rfl <;> rfl) ordI ord_swo 47 #[] b 0 c ks.toArray w
    (enters_of Try.func47 (by kernel_rfl) rfl) (order_lays b 0 _ w) hH hbl (by simp; omega) ord_total
  have hcall' : Calls Try.prog 61 _ _ _ := hcall
  simp only [List.size_toArray] at hcall'
  refine hcall'.mono ?_
  rintro e w' ⟨rfl, n, os, rfl⟩
  have hs3 : (srt ks).length = ks.length := srt_len ks
  have hw : (sortWorldK enc 3 w b 0 n (srt ks).toArray os).heap[b]? = some (.cells (putCells id 0 (flatK enc 3 (srt ks).toArray) cv) t (0, 0)) := by
    unfold sortWorldK
    rw [heap_grow_old _ _ (by simp [putRowK]; exact hbl)]
    simp [putRowK, putRow, mapBlock, Sort.ahead, Array.getElem?_modify, hh, onCells]
  have hother : ∀ k, k < w.heap.size → k ≠ b → (sortWorldK enc 3 w b 0 n (srt ks).toArray os).heap[k]? = w.heap[k]? := fun k hk hne => by
    unfold sortWorldK
    rw [heap_grow_old _ _ (by simp [putRowK]; exact hk)]
    simp [putRowK, putRow, mapBlock, Sort.ahead, Array.getElem?_modify, Ne.symm hne]
  refine ⟨.tuple [], _, _, g, rfl, .refl g, .tuple _ _ rfl fun i h => absurd h (by simp), ?_, rfl, rfl⟩
  refine S.turn (b := b) ho (by simp) (by rw [hb]; rfl) (by simp [sortWorldK, grow, putRowK, putRow, mapBlock, Sort.ahead]) rfl rfl rfl hother (fun o v e => by rw [him o] at e; cases e) (fun o v e => by rw [him o] at e; cases e) ?_ (by simp [sortWorldK, grow, putRowK, putRow, mapBlock, Sort.ahead])
  rw [hb]
  refine ⟨hbase, ⟨_, t, hw, ?_⟩, him⟩
  refine ⟨by rw [List.length_append, flc_len, List.length_drop, hs3]; simp [putCells, hsz]; omega, fun i h1 h2 => ?_⟩
  have hi : i < c * 3 := by simpa [putCells, hsz] using h2
  simp only [putCells, Array.toList_mapIdx, List.getElem_mapIdx, Array.getElem_toList]
  by_cases hlt : i < ks.length * 3
  · rw [if_pos ⟨Nat.zero_le _, by simpa [hs3] using hlt⟩]
    have e1 : ((srt ks).flatMap Iid.c ++ cs.drop (ks.length * 3))[i]? = some (iv (cz (srt ks)[i / 3]! (i % 3))) := by
      rw [List.getElem?_append_left (by rw [flc_len, hs3]; exact hlt), flc_some (by rw [hs3]; exact hlt)]
    rw [List.getElem?_eq_getElem h1] at e1
    injection e1 with e1
    rw [e1, Nat.sub_zero, flat_at (by rw [hs3]; exact hlt)]
    exact .int _ _
  · rw [if_neg (by simp [hs3]; omega)]
    have e1 : ((srt ks).flatMap Iid.c ++ cs.drop (ks.length * 3))[i]? = cs[i]? := by
      rw [List.getElem?_append_right (by rw [flc_len, hs3]; omega), flc_len, hs3, List.getElem?_drop]
      congr 1; omega
    have h4 : i < cs.length := by omega
    rw [List.getElem?_eq_getElem h1, List.getElem?_eq_getElem h4] at e1
    injection e1 with e1
    rw [e1]
    have := hrel.2 i h4 (by simp; omega)
    simpa using this
theorem sort_nil (t : Tok) (h : AHeap) : ACalls Try.prog 61 [.list [] t, .func (.func 47) [] []] h fun r h' => r = .tuple [] ∧ h' = h := fun w0 g w vs hv S => by
  obtain ⟨v, u, rfl, hva, hvf⟩ := vals_two hv
  obtain ⟨a, c, rfl⟩ : ∃ a c, v = .slice a 0 c := by
    cases hva with
    | list xs t a c k b o u hc hm hn hk ha h1 h2 ht => exact ⟨a, c, rfl⟩
  have hcall : Calls Try.prog 61 _ _ _ := AnyF.slices_SortFunc_none (P := Try.prog) Try.sortL a c u w
  refine hcall.mono ?_
  rintro e w' ⟨rfl, rfl⟩
  exact ⟨.tuple [], _, h, g, rfl, .refl g, .tuple _ _ rfl fun i h => absurd h (by simp), S, rfl, rfl⟩
end Go.Proofs.Ytajgeofhlgoifaa.I

/- Sets of instances: a set as a list. -/
set_option linter.unusedVariables false
set_option linter.unusedSimpArgs false
set_option maxRecDepth 20000
namespace Go.Proofs.Ytajgeofhlgoifaa.I
open Go Go.Proofs.Ytajgeofhlgoifaa.V Go.RowKit
theorem awp_fixs {P : Program} {E : Env P} {id n c k m : Nat} {cs xs : List AV} {code : Code} {Q : Post} {s : Slots} {h : AHeap} (ho : h[id]? = some (.cells cs)) (hx : cs.take (n * k) = xs.flatMap AV.cells) (hn : xs.length = n) (hu : uni k xs = true) (hk : 0 < k) (hnl : n * k ≤ cs.length)
    (q : AWP E code Q ⟨m, Slots.thaw id n c (.list xs .no) s, h.set id .dead⟩) : AWP E code Q ⟨m, s, h⟩ := fun m' w0 g w a hC r S => by
  obtain ⟨g', l, S', hv⟩ := freeze_k S (c := c) ho hx hn hu hk hnl
  have r' : StRel g' ⟨m, Slots.thaw id n c (.list xs .no) s, h.set id .dead⟩ a := ⟨r.defers.mono l, r.size, fun t => by
    have h0 := r.slots t
    show VRel g' (Slots.get (Slots.thaw id n c _ s) t) _
    rw [thaw_get]
    cases hx : Slots.get s t with
    | arr i o2 m2 k2 =>
      simp only at h0
      rw [hx] at h0
      unfold AV.thaw
      simp only
      split
      · rename_i he; obtain ⟨rfl, rfl, rfl, rfl⟩ := he; exact hv _ (h0.mono l)
      · exact h0.mono l
    | _ => simp only at h0; rw [hx] at h0; exact h0.mono l⟩
  exact wpIn_mono (q m' w0 g' w a (E.mono l hC) r' S') fun e a w ⟨s2, g2, l2, r2, S2, q⟩ => ⟨s2, g2, l.trans l2, r2, S2, q⟩
theorem collect_ok (p : MS) (hw : WF p) (id mb : Nat) (hl : p.1.length ≤ 100000) (h : AHeap) (hm : h[mb]? = some (.cells [.map id])) (ho : h[id]? = some p.o) :
    ACalls Try.prog 60 [.func (.func 85) [] [.ptr mb 0]] h fun r h' => ∃ ks sv o X, r = sv.strip ∧ h' = h ++ (.cells [sv] :: o :: X) ∧ Col X h.length sv ks ∧ ks.Nodup ∧ ∀ k, k ∈ ks ↔ k ∈ p.1.map (·.1) := by
  refine acalls_of_awp Try.func60 rfl (by simp only [List.length_cons, List.length_nil]; decide) ?_
  simp only [params_cons, params_nil]
  repeat (first | ((first | refine zd ?_ | refine zx ?_ | refine zk ?_ | refine zl ?_ | refine zr ?_); refine zq ?_) | refine zs ?_ | refine zg ?_ | refine zb ?_ | refine zo ?_ | refine zt ?_ | refine zf ?_)
  refine goes_call (callable_of Try.func82) _ (appseq_ok p hw id mb hl h hm ho) ?_
  rintro _ _ ⟨ks, sv, o, X, rfl, rfl, hcol, hnd, hks⟩
  rcases hcol with ⟨rfl, rfl⟩ | ⟨aj, c, cs, rfl, haj, hcl, hkc, hc0, htk⟩
  · refine ze ?_
    repeat (first | ((first | refine zd ?_ | refine zx ?_ | refine zk ?_ | refine zl ?_ | refine zr ?_); refine zq ?_) | refine zs ?_ | refine zg ?_ | refine zb ?_ | refine zo ?_ | refine zt ?_ | refine zf ?_)
    first | refine body_all (.inr rfl) (by simp -implicitDefEqProofs; rfl) (by simp -implicitDefEqProofs; rfl) (by first | (simp; done) | (simp; omega) | omega) ?_ | refine body_all (.inl rfl) (by simp -implicitDefEqProofs; rfl) (by simp -implicitDefEqProofs; rfl) (by first | (simp; done) | (simp; omega) | omega) ?_
    refine ⟨[], .list [] .full, o, X, rfl, rfl, .inl ⟨rfl, rfl⟩, hnd, hks⟩
  · refine ze ?_
    repeat (first | ((first | refine zd ?_ | refine zx ?_ | refine zk ?_ | refine zl ?_ | refine zr ?_); refine zq ?_) | refine zs ?_ | refine zg ?_ | refine zb ?_ | refine zo ?_ | refine zt ?_ | refine zf ?_)
    first | refine body_all (.inr rfl) (by simp -implicitDefEqProofs; rfl) (by simp -implicitDefEqProofs; rfl) (by first | (simp; done) | (simp; omega) | omega) ?_ | refine body_all (.inl rfl) (by simp -implicitDefEqProofs; rfl) (by simp -implicitDefEqProofs; rfl) (by first | (simp; done) | (simp; omega) | omega) ?_
    refine ⟨ks, _, o, X, rfl, rfl, .inr ⟨aj, c, cs, rfl, haj, hcl, hkc, hc0, htk⟩, hnd, hks⟩
theorem set_third (h : AHeap) (a b y : AObj) (X : AHeap) (aj : Nat) : (h ++ (a :: b :: X)).set (h.length + (aj + 2)) y = h ++ (a :: b :: X.set aj y) := by
  rw [List.set_append_right _ _ (by omega)]
  simp
theorem flc_cells (ks : List Iid) : (ks.map Iid.av).flatMap AV.cells = ks.flatMap Iid.c := by
  rw [List.flatMap_map]; rfl
theorem sorted_ok (p : MS) (hw : WF p) (id mb : Nat) (hl : p.1.length ≤ 100000) (h : AHeap) (hm : h[mb]? = some (.cells [.map id])) (ho : h[id]? = some p.o) :
    ACalls Try.prog 41 [.func (.func 85) [] [.ptr mb 0], .func (.func 47) [] []] h fun r h' => ∃ ks X, r = lv (srt ks) ∧ h' = h ++ X ∧ ks.Nodup ∧ ∀ k, k ∈ ks ↔ k ∈ p.1.map (·.1) := by
  refine acalls_of_awp Try.func41 rfl (by simp only [List.length_cons, List.length_nil]; decide) ?_
  simp only [params_cons, params_nil]
  repeat (first | ((first | refine zd ?_ | refine zx ?_ | refine zk ?_ | refine zl ?_ | refine zr ?_); refine zq ?_) | refine zs ?_ | refine zg ?_ | refine zb ?_ | refine zo ?_ | refine zt ?_ | refine zf ?_)
  refine goes_call (callable_of Try.func60) _ (collect_ok p hw id mb hl h hm ho) ?_
  rintro _ _ ⟨ks, sv, o, X, rfl, rfl, hcol, hnd, hks⟩
  rcases hcol with ⟨rfl, rfl⟩ | ⟨aj, c, cs, rfl, haj, hcl, hkc, hc0, htk⟩
  · refine ze ?_
    repeat (first | ((first | refine zd ?_ | refine zx ?_ | refine zk ?_ | refine zl ?_ | refine zr ?_); refine zq ?_) | refine zs ?_ | refine zg ?_ | refine zb ?_ | refine zo ?_ | refine zt ?_ | refine zf ?_)
    refine zp (callable_of Try.func61) _ (sort_nil .no _) ?_
    rintro _ _ ⟨rfl, rfl⟩
    refine ze ?_
    repeat (first | ((first | refine zd ?_ | refine zx ?_ | refine zk ?_ | refine zl ?_ | refine zr ?_); refine zq ?_) | refine zs ?_ | refine zg ?_ | refine zb ?_ | refine zo ?_ | refine zt ?_ | refine zf ?_)
    first | refine body_all (.inr rfl) (by simp -implicitDefEqProofs; rfl) (by simp -implicitDefEqProofs; rfl) (by first | (simp; done) | (simp; omega) | omega) ?_ | refine body_all (.inl rfl) (by simp -implicitDefEqProofs; rfl) (by simp -implicitDefEqProofs; rfl) (by first | (simp; done) | (simp; omega) | omega) ?_
    refine ⟨[], _, ?_, rfl, hnd, hks⟩
    simp [lv, srt]
  · have hkl : ks.length ≤ 1000000 := by
      have := List.Nodup.length_le_of_subset (l₂ := p.1.map (·.1)) hnd fun k hk => (hks k).1 hk
      simp at this
      omega
    refine ze ?_
    repeat (first | ((first | refine zd ?_ | refine zx ?_ | refine zk ?_ | refine zl ?_ | refine zr ?_); refine zq ?_) | refine zs ?_ | refine zg ?_ | refine zb ?_ | refine zo ?_ | refine zt ?_ | refine zf ?_)
    refine zp (callable_of Try.func61) _ (sort_arr ks (h.length + (aj + 2)) c cs (h ++ (.cells [.arr (h.length + (aj + 2)) 0 ks.length c] :: o :: X)) hkl (by rw [List.getElem?_append_right (by omega)]; simpa using haj) hcl hc0 htk) ?_
    rintro _ _ ⟨rfl, rfl⟩
    rw [set_third]
    refine ze ?_
    refine goes_done ?_
    simp only [vq, if_true, reduceIte, Nat.reduceEqDiff, reduceCtorEq]
    have hle : aj < X.length := (List.getElem?_eq_some_iff.1 haj).1
    refine awp_fixs (id := h.length + (aj + 2)) (n := ks.length) (c := c) (k := 3) (cs := (srt ks).flatMap Iid.c ++ cs.drop (ks.length * 3)) (xs := (srt ks).map Iid.av) (by rw [List.getElem?_append_right (by omega)]; simp [hle]) ?_ (by simp [srt_len]) (uni_map fun _ => rfl) (by omega) ?_ ?_
    · rw [flc_cells, List.take_left' (by rw [flc_len, srt_len])]
    · rw [List.length_append, flc_len, srt_len]; omega
    rw [set_third]
    repeat (first | ((first | refine zd ?_ | refine zx ?_ | refine zk ?_ | refine zl ?_ | refine zr ?_); refine zq ?_) | refine zs ?_ | refine zh (by simp -implicitDefEqProofs (disch := (first | omega | (simp; done) | fail)) [if_pos, if_neg, wrap_i64, tmod_pos, tdiv_pos, Int.toNat_add, Slots.thaw, AV.thaw]; rfl) ?_ | refine zb ?_ | refine zo ?_ | refine zt ?_ | refine zf ?_)
    first | refine body_all (.inr rfl) (by simp -implicitDefEqProofs; rfl) (by simp -implicitDefEqProofs; rfl) (by first | (simp; done) | (simp; omega) | omega) ?_ | refine body_all (.inl rfl) (by simp -implicitDefEqProofs; rfl) (by simp -implicitDefEqProofs; rfl) (by first | (simp; done) | (simp; omega) | omega) ?_
    exact ⟨ks, _, rfl, rfl, hnd, hks⟩
end Go.Proofs.Ytajgeofhlgoifaa.I

/- Sets of instances: a set as a list; what it is in plain words. -/
set_option linter.unusedVariables false
set_option linter.unusedSimpArgs false
set_option maxRecDepth 20000
namespace Go.Proofs.Ytajgeofhlgoifaa.I
open Go Go.Proofs.Ytajgeofhlgoifaa.V Go.RowKit
/-- A list in order, each once. -/
def Ris (l : List Iid) : Prop := l.Pairwise fun a b => lessB a b = true
theorem ris_unique {a b : List Iid} (ha : Ris a) (hb : Ris b) (h : ∀ k, k ∈ a ↔ k ∈ b) : a = b := by
  induction a generalizing b with
  | nil => cases b with
    | nil => rfl
    | cons y b => exact absurd ((h y).2 (by simp)) (by simp)
  | cons x a ih =>
    cases b with
    | nil => exact absurd ((h x).1 (by simp)) (by simp)
    | cons y b =>
      obtain ⟨ha1, ha2⟩ := List.pairwise_cons.1 ha
      obtain ⟨hb1, hb2⟩ := List.pairwise_cons.1 hb
      have irr : ∀ z, lessB z z = false := fun z => by simp [lessB]
      have asy : ∀ z u, lessB z u = true → lessB u z = true → False := fun z u h1 h2 => by simp [lessB] at h1 h2; omega
      have hxy : x = y := by
        rcases List.mem_cons.1 ((h x).1 (by simp)) with e | e
        · exact e
        rcases List.mem_cons.1 ((h y).2 (by simp)) with e2 | e2
        · exact e2.symm
        exact (asy y x (hb1 x e) (ha1 y e2)).elim
      subst hxy
      congr 1
      refine ih ha2 hb2 fun k => ?_
      constructor
      · intro hk
        rcases List.mem_cons.1 ((h k).1 (List.mem_cons_of_mem _ hk)) with e | e
        · subst e; exact absurd (ha1 k hk) (by simp [irr])
        · exact e
      · intro hk
        rcases List.mem_cons.1 ((h k).2 (List.mem_cons_of_mem _ hk)) with e | e
        · subst e; exact absurd (hb1 k hk) (by simp [irr])
        · exact e
theorem srt_ris {ks : List Iid} (hn : ks.Nodup) : Ris (srt ks) := by
  have hs : List.Pairwise (fun a b : Iid => (fun x y => !(ltOf ordI y x)) a b = true) (srt ks) := by
    refine List.pairwise_mergeSort (fun a b c h1 h2 => ?_) (fun a b => ?_) ks
    · simp only [lt_less, Bool.not_eq_true', lessB, decide_eq_false_iff_not] at *; omega
    · simp only [lt_less, Bool.or_eq_true, Bool.not_eq_true', lessB, decide_eq_false_iff_not] at *; omega
  have hd : (srt ks).Nodup := (List.mergeSort_perm ks _).nodup_iff.2 hn
  refine (hs.and hd).imp fun {a b} ⟨h1, h2⟩ => ?_
  simp only [lt_less, Bool.not_eq_true'] at h1
  obtain ⟨a1, a2, a3⟩ := a
  obtain ⟨b1, b2, b3⟩ := b
  have h3 : ¬ (a1 = b1 ∧ a2 = b2 ∧ a3 = b3) := fun e => h2 (by obtain ⟨rfl, rfl, rfl⟩ := e; rfl)
  clear h2
  simp only [lessB, decide_eq_true_eq, decide_eq_false_iff_not] at *
  omega
/-- In its place. -/
def putS : List Iid → Iid → List Iid
  | [], x => [x]
  | y :: l, x => if x = y then y :: l else if lessB x y then x :: y :: l else y :: putS l x
theorem putS_mem (l : List Iid) (x k : Iid) : k ∈ putS l x ↔ k = x ∨ k ∈ l := by
  induction l with
  | nil => simp [putS]
  | cons y l ih =>
    unfold putS
    split
    · rename_i e; subst e; simp
    · split
      · simp
      · simp [ih]; exact ⟨fun h => by rcases h with h | h | h <;> simp [h], fun h => by rcases h with h | h | h <;> simp [h]⟩
theorem putS_ris {l : List Iid} (x : Iid) (h : Ris l) : Ris (putS l x) := by
  induction l with
  | nil => simp [putS, Ris]
  | cons y l ih =>
    obtain ⟨h1, h2⟩ := List.pairwise_cons.1 h
    unfold putS
    split
    · exact h
    · rename_i hne
      split
      · rename_i hl
        refine List.pairwise_cons.2 ⟨fun b hb => ?_, h⟩
        rcases List.mem_cons.1 hb with rfl | hb
        · exact hl
        · have := h1 b hb
          simp [lessB] at hl this ⊢; omega
      · rename_i hl
        refine List.pairwise_cons.2 ⟨fun b hb => ?_, ih h2⟩
        rcases (putS_mem l x b).1 hb with rfl | hb
        · obtain ⟨a1, a2, a3⟩ := b
          obtain ⟨b1, b2, b3⟩ := y
          simp [lessB] at *
          omega
        · exact h1 b hb
/-- The set of a list. -/
def clean (l : List Iid) : List Iid := l.foldl putS []
theorem foldl_put (l acc : List Iid) (k : Iid) : k ∈ l.foldl putS acc ↔ k ∈ acc ∨ k ∈ l := by
  induction l generalizing acc with
  | nil => simp
  | cons x l ih => rw [List.foldl_cons, ih, putS_mem]; simp; exact ⟨fun h => by rcases h with (h | h) | h <;> simp [h], fun h => by rcases h with h | h | h <;> simp [h]⟩
theorem foldl_ris (l acc : List Iid) (h : Ris acc) : Ris (l.foldl putS acc) := by
  induction l generalizing acc with
  | nil => exact h
  | cons x l ih => exact ih _ (putS_ris x h)
theorem clean_mem (l : List Iid) (k : Iid) : k ∈ clean l ↔ k ∈ l := by simp [clean, foldl_put]
theorem clean_ris (l : List Iid) : Ris (clean l) := foldl_ris l [] .nil
theorem srt_clean {ks l : List Iid} (hn : ks.Nodup) (h : ∀ k, k ∈ ks ↔ k ∈ l) : srt ks = clean l :=
  ris_unique (srt_ris hn) (clean_ris l) fun k => by rw [srt_mem, clean_mem, h]
theorem putS_len (l : List Iid) (x : Iid) : (putS l x).length ≤ l.length + 1 := by
  induction l with
  | nil => simp [putS]
  | cons y l ih =>
    unfold putS
    split
    · simp
    · split
      · simp
      · simp; exact ih
theorem clean_len (l : List Iid) : (clean l).length ≤ l.length := by
  have : ∀ acc : List Iid, (l.foldl putS acc).length ≤ acc.length + l.length := by
    induction l with
    | nil => intro acc; simp
    | cons x l ih => intro acc; have h1 := ih (putS acc x); have h2 := putS_len acc x; rw [List.foldl_cons, List.length_cons]; omega
  simpa [clean] using this []
theorem list_ok (p : MS) (hw : WF p) (id : Nat) (hl : p.1.length ≤ 100000) (h : AHeap) (ho : h[id]? = some p.o) :
    ACalls Try.prog 50 [.map id] h fun r h' => r = lv (clean (p.1.map (·.1))) ∧ ∃ X, h' = h ++ X := by
  refine acalls_of_awp Try.func50 rfl (by simp only [List.length_cons, List.length_nil]; decide) ?_
  simp only [params_cons, params_nil]
  repeat (first | ((first | refine zd ?_ | refine zx ?_ | refine zk ?_ | refine zl ?_ | refine zr ?_); refine zq ?_) | refine zs ?_ | refine zg ?_ | refine zb ?_ | refine zo ?_ | refine zt ?_ | refine zf ?_)
  refine goes_call (callable_of Try.func68) _ (keys_ok id h) ?_
  rintro _ _ ⟨rfl, rfl⟩
  refine ze ?_
  refine goes_call (callable_of Try.func41) _ (sorted_ok p hw id h.length hl (h ++ [.cells [.map id]]) (by simp) (by rw [List.getElem?_append_left (List.getElem?_eq_some_iff.1 ho).1]; exact ho)) ?_
  rintro _ _ ⟨ks, X, rfl, rfl, hnd, hks⟩
  rw [srt_clean hnd hks]
  refine goes_eq (by simp -implicitDefEqProofs (disch := (first | omega | (simp; done) | fail)) [if_pos, if_neg, wrap_i64, tmod_pos, tdiv_pos, Int.toNat_add, lv]; rfl) ?_
  repeat (first | ((first | refine zd ?_ | refine zx ?_ | refine zk ?_ | refine zl ?_ | refine zr ?_); refine zq ?_) | refine zs ?_ | refine zg ?_ | refine zb ?_ | refine zo ?_ | refine zt ?_ | refine zf ?_)
  first | refine body_all (.inr rfl) (by simp -implicitDefEqProofs; rfl) (by simp -implicitDefEqProofs; rfl) (by first | (simp; done) | (simp; omega) | omega) ?_ | refine body_all (.inl rfl) (by simp -implicitDefEqProofs; rfl) (by simp -implicitDefEqProofs; rfl) (by first | (simp; done) | (simp; omega) | omega) ?_
  exact ⟨rfl, _, rfl⟩
end Go.Proofs.Ytajgeofhlgoifaa.I

/- Sets of instances: members of a map; Clean, Union. -/
set_option linter.unusedVariables false
set_option linter.unusedSimpArgs false
set_option maxRecDepth 20000
namespace Go.Proofs.Ytajgeofhlgoifaa.I
open Go Go.Proofs.Ytajgeofhlgoifaa.V Go.RowKit
@[simp] theorem av_strip (a : Iid) : (Iid.av a).strip = Iid.av a := by simp [Iid.av, Iid.c]
@[simp] theorem av_s : AV.strip ∘ Iid.av = Iid.av := s_comp av_strip
@[simp] theorem bel_av {m : Nat} {x : Iid} : Bel m (Iid.av x) := by simp [Iid.av, Iid.c]
def keys (p : MS) : List Iid := p.1.map (·.1)
def AllT (p : MS) : Prop := ∀ e ∈ p.1, e.2.1 = .bool true
theorem modify_map {β γ : Type} {f : β → β} {g : β → γ} (hg : ∀ x, g (f x) = g x) : ∀ (l : List β) (j : Nat), (l.modify j f).map g = l.map g
  | [], j => by simp
  | a :: l, 0 => by simp [hg]
  | a :: l, j + 1 => by simp [modify_map hg l j]
theorem modify_mem {β : Type} {f : β → β} {Q : β → Prop} (hf : ∀ x, Q (f x)) : ∀ (l : List β) (j : Nat), (∀ x ∈ l, Q x) → ∀ x ∈ l.modify j f, Q x
  | [], j, h, x, hx => by simp at hx
  | a :: l, 0, h, x, hx => by
    simp at hx
    rcases hx with rfl | hx
    · exact hf _
    · exact h x (by simp [hx])
  | a :: l, j + 1, h, x, hx => by
    simp at hx
    rcases hx with rfl | hx
    · exact h x (by simp)
    · exact modify_mem hf l j (fun y hy => h y (by simp [hy])) x hx
def put1 (p : MS) (k : Iid) : MS := (putE k (.bool true) p.2 p.1, putC k p.2 p.1)
theorem put_all {p : MS} {k : Iid} (h : WF p) (ha : AllT p) : WF (put1 p k) ∧ AllT (put1 p k) ∧ (∀ x, x ∈ keys (put1 p k) ↔ x ∈ keys p ∨ x = k) ∧ (put1 p k).1.length ≤ p.1.length + 1 := by
  obtain ⟨es, c⟩ := p
  unfold put1 putE putC keys AllT
  cases hk : keyAt k es with
  | none =>
    have hn := keyAt_none.1 hk
    refine ⟨⟨?_, ?_, ?_⟩, ?_, ?_, by simp⟩
    · simp only [List.map_append, List.map_cons, List.map_nil]
      rw [List.nodup_append]
      refine ⟨h.st, by simp, fun a ha b hb => ?_⟩
      simp at hb
      obtain ⟨e, he, rfl⟩ := List.mem_map.1 ha
      have h5 := h.lt e he
      simp only at h5
      omega
    · intro e he
      rcases List.mem_append.1 he with he | he
      · exact Nat.lt_succ_of_lt (h.lt e he)
      · simp at he; rw [he]; exact Nat.lt_succ_self _
    · simp only [List.map_append, List.map_cons, List.map_nil]
      rw [List.nodup_append]
      refine ⟨h.ky, by simp, fun a ha b hb => ?_⟩
      simp at hb
      obtain ⟨e, he, rfl⟩ := List.mem_map.1 ha
      rw [hb]
      exact hn e he
    · intro e he
      rcases List.mem_append.1 he with he | he
      · exact ha e he
      · simp at he; rw [he]
    · intro x
      simp
  | some j =>
    obtain ⟨hj, e⟩ := keyAt_some hk
    refine ⟨⟨?_, ?_, ?_⟩, ?_, ?_, by simp⟩
    · simp only
      rw [modify_map (f := fun q : Iid × AV × Nat => (q.1, AV.bool true, q.2.2)) (g := fun e : Iid × AV × Nat => e.2.2) (fun _ => rfl)]
      exact h.st
    · intro x hx
      have e1 : x.2.2 ∈ (es.modify j fun q => (q.1, AV.bool true, q.2.2)).map (·.2.2) := List.mem_map.2 ⟨x, hx, rfl⟩
      rw [modify_map (f := fun q : Iid × AV × Nat => (q.1, AV.bool true, q.2.2)) (g := fun e : Iid × AV × Nat => e.2.2) (fun _ => rfl)] at e1
      obtain ⟨y, hy, e2⟩ := List.mem_map.1 e1
      have := h.lt y hy
      simp only at this ⊢
      omega
    · simp only
      rw [modify_map (f := fun q : Iid × AV × Nat => (q.1, AV.bool true, q.2.2)) (g := fun e : Iid × AV × Nat => e.1) (fun _ => rfl)]
      exact h.ky
    · exact modify_mem (Q := fun e : Iid × AV × Nat => e.2.1 = .bool true) (fun _ => rfl) _ _ ha
    · intro x
      simp only
      rw [modify_map (f := fun q : Iid × AV × Nat => (q.1, AV.bool true, q.2.2)) (g := fun e : Iid × AV × Nat => e.1) (fun _ => rfl)]
      refine ⟨fun h => .inl h, fun h => ?_⟩
      rcases h with h | rfl
      · exact h
      · exact List.mem_map.2 ⟨es[j], List.getElem_mem hj, e⟩
theorem putL_all (ks : List Iid) : ∀ {p : MS}, WF p → AllT p → WF (putL p ks) ∧ AllT (putL p ks) ∧ (∀ x, x ∈ keys (putL p ks) ↔ x ∈ keys p ∨ x ∈ ks) ∧ (putL p ks).1.length ≤ p.1.length + ks.length := by
  induction ks with
  | nil => intro p h ha; simp [putL]; exact ⟨h, ha⟩
  | cons k ks ih =>
    intro p h ha
    obtain ⟨h1, h2, h3, h4⟩ := put_all (k := k) h ha
    obtain ⟨g1, g2, g3, g4⟩ := ih h1 h2
    refine ⟨g1, g2, fun x => (g3 x).trans ?_, Nat.le_trans g4 (by simp; omega)⟩
    rw [h3]
    simp
    exact ⟨fun h => by rcases h with (h | h) | h <;> simp [h], fun h => by rcases h with h | h | h <;> simp [h]⟩
theorem wf0 : WF ([], 0) := ⟨.nil, fun e h => (by cases h), .nil⟩
theorem all0 : AllT ([], 0) := fun e h => by cases h
abbrev ms (l : List Iid) : MS := putL ([], 0) l
theorem ms_wf (l : List Iid) : WF (ms l) := (putL_all l wf0 all0).1
theorem ms_all (l : List Iid) : AllT (ms l) := (putL_all l wf0 all0).2.1
theorem ms_mem (l : List Iid) (x : Iid) : x ∈ keys (ms l) ↔ x ∈ l := by
  rw [(putL_all l wf0 all0).2.2.1]
  simp [keys]
theorem ms_len (l : List Iid) : (ms l).1.length ≤ l.length := by have := (putL_all l wf0 all0).2.2.2; simpa using this
theorem clean_ext {a b : List Iid} (h : ∀ x, x ∈ a ↔ x ∈ b) : clean a = clean b := ris_unique (clean_ris a) (clean_ris b) fun k => by rw [clean_mem, clean_mem, h]
theorem clean_ms (l : List Iid) : clean ((ms l).1.map (·.1)) = clean l := clean_ext (ms_mem l)
theorem clean_ok (l : List Iid) (t : Tok) (hl : l.length ≤ 100000) (h : AHeap) : ACalls Try.prog 27 [.list (l.map Iid.av) t] h fun r h' => r = lv (clean l) ∧ h' = h := by
  refine acalls_of_awp Try.func27 rfl (by simp only [List.length_cons, List.length_nil]; decide) ?_
  simp only [params_cons, params_nil]
  repeat (first | ((first | refine zd ?_ | refine zx ?_ | refine zk ?_ | refine zl ?_ | refine zr ?_); refine zq ?_) | refine zs ?_ | refine zg ?_ | refine zb ?_ | refine zo ?_ | refine zt ?_ | refine zf ?_)
  refine goes_callS (callable_of Try.func49) (by simp -implicitDefEqProofs (disch := (first | omega | (simp; done) | fail)) [if_pos, if_neg, wrap_i64, tmod_pos, tdiv_pos, Int.toNat_add, lv] <;> first | rfl | omega) _ (of_ok [l] .no (by simp) (by simpa using hl) _) ?_
  rintro _ _ ⟨rfl, X, rfl⟩
  rw [show [l].flatten = l by simp]
  refine ze ?_
  refine goes_callS (callable_of Try.func50) (by simp -implicitDefEqProofs (disch := (first | omega | (simp; done) | fail)) [if_pos, if_neg, wrap_i64, tmod_pos, tdiv_pos, Int.toNat_add] <;> first | rfl | omega) _ (list_ok (ms l) (ms_wf l) h.length (Nat.le_trans (ms_len l) hl) _ (by simp)) ?_
  rintro _ _ ⟨rfl, Y, rfl⟩
  rw [clean_ms]
  rw [List.append_assoc]
  refine goes_eq (by simp -implicitDefEqProofs (disch := (first | omega | (simp; done) | fail)) [if_pos, if_neg, wrap_i64, tmod_pos, tdiv_pos, Int.toNat_add, lv]; rfl) ?_
  repeat (first | ((first | refine zd ?_ | refine zx ?_ | refine zk ?_ | refine zl ?_ | refine zr ?_); refine zq ?_) | refine zs ?_ | refine zg ?_ | refine zb ?_ | refine zo ?_ | refine zt ?_ | refine zf ?_)
  first | refine zy (.inr rfl) ?_ | refine zy (.inl rfl) ?_
  simp [lv]
end Go.Proofs.Ytajgeofhlgoifaa.I

/- Sets of instances: Less2. -/
set_option linter.unusedVariables false
set_option linter.unusedSimpArgs false
set_option maxRecDepth 20000
namespace Go.Proofs.Ytajgeofhlgoifaa.I
open Go Go.Proofs.Ytajgeofhlgoifaa.V Go.RowKit
def del1 (p : MS) (k : Iid) : MS := (delE k p.1, p.2)
def delL (p : MS) (ks : List Iid) : MS := ks.foldl del1 p
theorem delL_snoc (p : MS) (ks : List Iid) (k : Iid) : delL p (ks ++ [k]) = del1 (delL p ks) k := by simp [delL]
theorem del_all {p : MS} {k : Iid} (h : WF p) (ha : AllT p) : WF (del1 p k) ∧ AllT (del1 p k) ∧ (∀ x, x ∈ keys (del1 p k) ↔ x ∈ keys p ∧ x ≠ k) ∧ (del1 p k).1.length ≤ p.1.length := by
  obtain ⟨es, c⟩ := p
  unfold del1 delE
  cases hk : keyAt k es with
  | none =>
    have hn := keyAt_none.1 hk
    refine ⟨h, ha, fun x => ⟨fun hx => ⟨hx, fun e => ?_⟩, fun hx => hx.1⟩, Nat.le_refl _⟩
    subst e
    obtain ⟨e, he, e2⟩ := List.mem_map.1 hx
    exact hn e he e2
  | some j =>
    obtain ⟨hj, e⟩ := keyAt_some hk
    have hs : (es.eraseIdx j).Sublist es := List.eraseIdx_sublist es j
    refine ⟨⟨(hs.map _).nodup h.st, fun e he => h.lt e (hs.subset he), (hs.map _).nodup h.ky⟩, fun e he => ha e (hs.subset he), fun x => ⟨fun hx => ?_, fun ⟨hx, hne⟩ => ?_⟩, hs.length_le⟩
    · obtain ⟨q, hq, rfl⟩ := List.mem_map.1 hx
      refine ⟨List.mem_map.2 ⟨q, hs.subset hq, rfl⟩, fun e2 => ?_⟩
      obtain ⟨i, hi, hne, e3⟩ := List.mem_eraseIdx_iff_getElem.1 hq
      have hp : List.Pairwise (fun a b : Iid × AV × Nat => a.1 ≠ b.1) es := List.pairwise_map.1 h.ky
      rcases Nat.lt_or_gt_of_ne hne with hlt | hlt
      · exact List.pairwise_iff_getElem.1 hp i j hi hj hlt (by rw [e3, e2, e])
      · exact List.pairwise_iff_getElem.1 hp j i hj hi hlt (by rw [e3, e2, e])
    · obtain ⟨q, hq, rfl⟩ := List.mem_map.1 hx
      obtain ⟨i, hi, rfl⟩ := List.getElem_of_mem hq
      exact List.mem_map.2 ⟨_, List.mem_eraseIdx_iff_getElem.2 ⟨i, hi, fun e2 => hne (by subst e2; exact e), rfl⟩, rfl⟩
theorem delL_all (ks : List Iid) : ∀ {p : MS}, WF p → AllT p → WF (delL p ks) ∧ AllT (delL p ks) ∧ (∀ x, x ∈ keys (delL p ks) ↔ x ∈ keys p ∧ x ∉ ks) ∧ (delL p ks).1.length ≤ p.1.length := by
  induction ks with
  | nil => intro p h ha; simp [delL]; exact ⟨h, ha⟩
  | cons k ks ih =>
    intro p h ha
    obtain ⟨h1, h2, h3, h4⟩ := del_all (k := k) h ha
    obtain ⟨g1, g2, g3, g4⟩ := ih h1 h2
    refine ⟨g1, g2, fun x => (g3 x).trans ?_, Nat.le_trans g4 h4⟩
    rw [h3]
    simp
    exact ⟨fun ⟨⟨a, b⟩, c⟩ => ⟨a, b, c⟩, fun ⟨a, b, c⟩ => ⟨⟨a, b⟩, c⟩⟩
def sub (a b : List Iid) : List Iid := a.filter fun x => !b.contains x
theorem sub_mem (a b : List Iid) (x : Iid) : x ∈ sub a b ↔ x ∈ a ∧ x ∉ b := by simp [sub]
theorem clean_del (a b : List Iid) : clean ((delL (ms a) b).1.map (·.1)) = clean (sub a b) := clean_ext fun x => by
  have := (delL_all b (ms_wf a) (ms_all a)).2.2.1 x
  rw [ms_mem] at this
  rw [sub_mem]
  exact this
end Go.Proofs.Ytajgeofhlgoifaa.I

/- Sets of instances: maps.Equal, Same. -/
set_option linter.unusedVariables false
set_option linter.unusedSimpArgs false
set_option maxRecDepth 20000
namespace Go.Proofs.Ytajgeofhlgoifaa.I
open Go Go.Proofs.Ytajgeofhlgoifaa.V Go.RowKit
def sameB (p q : MS) : Bool := decide (p.1.length = q.1.length) && p.1.all fun e => (keyAt e.1 q.1).isSome
theorem look_true {q : MS} (ha : AllT q) {k : Iid} (h : (keyAt k q.1).isSome = true) : lookE (.bool false) k q.1 = .bool true := by
  unfold lookE
  cases hk : keyAt k q.1 with
  | none => rw [hk] at h; cases h
  | some j =>
    obtain ⟨hj, e⟩ := keyAt_some hk
    simp [hj]
    exact ha _ (List.getElem_mem hj)
theorem zero_bool (g : Ghost) (w : World) : ∃ v, (zeroValue 4).run Try.prog w = .ok v w ∧ VRel g (.bool false) v := ⟨.bool false, Try.zeroValue4 w, .bool _⟩
theorem aops_at {P : Program} {E : Env P} {ops : Array Oper} {l l1 l2 : List Oper} {n : Nat} {s : Slots} {h : AHeap} {K : ASt → Prop} (k0 : Nat) (h1 : l.take k0 = l1) (h2 : l.drop k0 = l2)
    (k : ARun E ops n l1 s h fun s' h' => AOps E ops l2 ⟨n, s', h'⟩ K) : AOps E ops l ⟨n, s, h⟩ K := by
  have := aops_run k
  rwa [← h1, ← h2, List.take_append_drop] at this
theorem equal_ok (p q : MS) (hw : WF p) (hp : AllT p) (hq : AllT q) (hl : p.1.length ≤ 100000) (hlq : q.1.length ≤ 100000) (i1 i2 : Nat) (h : AHeap) (ho : h[i1]? = some p.o) (ho2 : h[i2]? = some q.o) :
    ACalls Try.prog 48 [.map i1, .map i2] h fun r h' => r = .bool (sameB p q) ∧ h' = h := by
  have hol : ∀ y, (h ++ y)[i1]? = some (.map (p.1.map fun q => (Iid.av q.1, q.2.1, q.2.2)) p.2) := fun y => by rw [List.getElem?_append_left (List.getElem?_eq_some_iff.1 ho).1]; exact ho
  have hol2 : ∀ y, (h ++ y)[i2]? = some (mapO Iid.av q.1 q.2) := fun y => by rw [List.getElem?_append_left (List.getElem?_eq_some_iff.1 ho2).1]; exact ho2
  have hol0 := hol []
  have hol20 : (h ++ [])[i2]? = some (.map (q.1.map fun q => (Iid.av q.1, q.2.1, q.2.2)) q.2) := hol2 []
  rw [List.append_nil] at hol0 hol20
  clear ho ho2
  refine acalls_of_awp Try.func48 rfl (by simp only [List.length_cons, List.length_nil]; decide) ?_
  simp only [params_cons, params_nil]
  refine awp_seq ?_
  refine zg ?_
  refine goes_done ?_
  (try simp only [vq, if_true, reduceIte, Nat.reduceEqDiff, reduceCtorEq])
  refine awp_seq ?_
  refine awp_seq ?_
  refine awp_region_at 1 rfl rfl ?_
  refine zn ?_
  refine goes_done ?_
  refine aops_lenm (id := i1) rfl rfl Try.underlying82 rfl hol0 ?_
  refine aops_at 1 rfl rfl ?_
  refine zn ?_
  refine goes_done ?_
  refine aops_lenm (id := i2) rfl rfl Try.underlying82 rfl hol20 ?_
  refine aops_end ?_
  unfold sameB
  by_cases hlen : p.1.length = q.1.length
  case neg =>
    have hb : ((p.1.length : Int) != (q.1.length : Int)) = true := by simp; omega
    refine run_start (goes_eq (by simp -implicitDefEqProofs (disch := (first | omega | (simp; done) | fail)) [if_pos, if_neg, wrap_i64, tmod_pos, tdiv_pos, Int.toNat_add, hb]; rfl) ?_)
    refine goes_done ?_
    simp only [vq, if_true, reduceIte, Nat.reduceEqDiff, reduceCtorEq]
    refine awp_cond_t rfl ?_
    repeat (first | ((first | refine zd ?_ | refine zx ?_ | refine zk ?_ | refine zl ?_ | refine zr ?_); refine zq ?_) | refine zs ?_ | refine zg ?_ | refine zb ?_ | refine zo ?_ | refine zt ?_ | refine zf ?_)
    first | refine zY (.inr rfl) ?_ | refine zY (.inl rfl) ?_
    simp [hlen]
  refine run_start (goes_eq (by simp -implicitDefEqProofs (disch := (first | omega | (simp; done) | fail)) [if_pos, if_neg, wrap_i64, tmod_pos, tdiv_pos, Int.toNat_add, hlen]; rfl) ?_)
  refine goes_done ?_
  simp only [vq, if_true, reduceIte, Nat.reduceEqDiff, reduceCtorEq]
  refine awp_cond_f rfl ?_
  refine awp_skip ?_
  simp only [vq, if_true, reduceIte, Nat.reduceEqDiff, reduceCtorEq]
  refine awp_seq ?_
  refine awp_seq ?_
  refine awp_region_at 1 rfl rfl ?_
  refine zn ?_
  refine goes_done ?_
  refine aops_range (id := i1) (clock := p.2) rfl rfl Try.underlying82 rfl hol0 ?_
  refine aops_end ?_
  refine zn ?_
  refine goes_done ?_
  simp only [vq, if_true, reduceIte, Nat.reduceEqDiff, reduceCtorEq]
  refine awp_block ?_
  refine awp_loop (fun z st => ∃ (ps : Ents Iid) (X : AHeap), z = (p.1.filter fun q => !(ps.map (·.2.2)).contains q.2.2).length ∧ (∀ q ∈ ps, q ∈ p.1) ∧ (∀ e ∈ ps, (keyAt e.1 q.1).isSome = true) ∧ st.le ⟨Try.f48.ntmps, [(1, .map i2), (15, .ptr h.length 0)], h ++ (.iter i1 p.2 p.2 (ps.map (·.2.2)) :: X)⟩) (p.1.filter fun q => !(([] : Ents Iid).map (·.2.2)).contains q.2.2).length ?_ ?_
  rotate_left
  rintro z st ⟨ps, X, rfl, hps, hin, hle⟩
  · refine awp_le hle ?_
    clear hle
    refine awp_seq ?_
    refine awp_region_at 0 rfl rfl ?_
    refine zn ?_
    refine goes_done ?_
    refine aops_next (id := i1) (rid := h.length) (clock := p.2) (since := p.2) (last := p.2) (seen := ps.map (·.2.2)) (es := p.1.map fun q => (Iid.av q.1, q.2.1, q.2.2)) rfl rfl rfl (by simp) (hol _) (fun q hq => ?_) (Nat.le_refl _) (fun hall => ?_) (fun p0 hp0 hns => ?_)
    · obtain ⟨e, he, rfl⟩ := List.mem_map.1 hq
      exact hw.lt e he
    · have hfin : (p.1.all fun e => (keyAt e.1 q.1).isSome) = true := by
        rw [List.all_eq_true]
        intro e he
        obtain ⟨e2, he2, e3⟩ := List.mem_map.1 (hall _ (List.mem_map.2 ⟨e, he, rfl⟩))
        have := hps e2 he2
        have hst : List.Pairwise (fun a b : Iid × AV × Nat => a.2.2 ≠ b.2.2) p.1 := List.pairwise_map.1 hw.st
        have heq : e2 = e := by
          obtain ⟨i, hi, rfl⟩ := List.getElem_of_mem this
          obtain ⟨j, hj, rfl⟩ := List.getElem_of_mem he
          rcases Nat.lt_trichotomy i j with hlt | hlt | hlt
          · exact absurd e3 (List.pairwise_iff_getElem.1 hst i j hi hj hlt)
          · subst hlt; rfl
          · exact absurd e3.symm (List.pairwise_iff_getElem.1 hst j i hj hi hlt)
        rw [← heq]
        exact hin e2 he2
      refine aops_end ?_
      refine zn ?_
      refine goes_done ?_
      simp only [vq, if_true, reduceIte, Nat.reduceEqDiff, reduceCtorEq]
      repeat (first | ((first | refine zd ?_ | refine zx ?_ | refine zk ?_ | refine zl ?_ | refine zr ?_); refine zq ?_) | refine zs ?_ | refine zg ?_ | refine zb ?_ | refine zo ?_ | refine zt ?_ | refine zf ?_)
      first | refine zy (.inr rfl) ?_ | refine zy (.inl rfl) ?_
      simp [hlen, hfin]
    · obtain ⟨e, he, rfl⟩ := List.mem_map.1 hp0
      have het := hp e he
      have hns2 : e.2.2 ∉ ps.map (·.2.2) := hns
      refine aops_end ?_
      refine zn ?_
      refine goes_done ?_
      simp only [vq, if_true, reduceIte, Nat.reduceEqDiff, reduceCtorEq]
      refine awp_seq ?_
      refine awp_cond_t rfl ?_
      refine awp_skip ?_
      simp only [vq, if_true, reduceIte, Nat.reduceEqDiff, reduceCtorEq]
      refine awp_block ?_
      refine awp_seq ?_
      refine awp_region_at 0 rfl rfl ?_
      refine zn ?_
      refine goes_done ?_
      refine aops_entry (id := i1) (rid := h.length) (clock := p.2) (since := p.2) (seen := ps.map (·.2.2)) (es := p.1.map fun q => (Iid.av q.1, q.2.1, q.2.2)) (p := (Iid.av e.1, e.2.1, e.2.2)) rfl rfl rfl (by simp) (hol _) hp0 (by rw [List.map_map]; exact hw.st) ?_
      refine aops_end ?_
      simp only [Iid.av, Iid.c]
      refine zn ?_
      refine goes_done ?_
      simp only [vq, if_true, reduceIte, Nat.reduceEqDiff, reduceCtorEq]
      refine awp_seq ?_
      refine awp_region_at 2 rfl rfl ?_
      refine zn ?_
      refine goes_done ?_
      refine aops_look (id := i2) (es := q.1) (clock := q.2) (k := e.1) (z := .bool false) (c := true) iid_key rfl rfl Try.underlying82 zero_bool rfl rfl (hol2 _) ?_
      refine aops_end ?_
      cases hk : (keyAt e.1 q.1).isSome with
      | false =>
        have hfin : (p.1.all fun e => (keyAt e.1 q.1).isSome) = false := by
          rw [List.all_eq_false]
          exact ⟨e, he, by rw [hk]; simp⟩
        refine zn ?_
        refine goes_done ?_
        simp only [vq, if_true, reduceIte, Nat.reduceEqDiff, reduceCtorEq]
        repeat (first | ((first | refine zd ?_ | refine zx ?_ | refine zk ?_ | refine zl ?_ | refine zr ?_); refine zq ?_) | refine zs ?_ | refine zg ?_ | refine zb ?_ | refine zo ?_ | refine zt ?_ | refine zf ?_)
        first | refine zy (.inr rfl) ?_ | refine zy (.inl rfl) ?_
        simp [hfin]
      | true =>
        rw [look_true hq hk, het]
        refine zn ?_
        refine goes_done ?_
        simp only [vq, if_true, reduceIte, Nat.reduceEqDiff, reduceCtorEq]
        repeat (first | ((first | refine zd ?_ | refine zx ?_ | refine zk ?_ | refine zl ?_ | refine zr ?_); refine zq ?_) | refine zs ?_ | refine zg ?_ | refine zb ?_ | refine zo ?_ | refine zt ?_ | refine zf ?_)
        have hlt := flt_lt (f := fun e2 : Iid × AV × Nat => !((ps ++ [e]).map (·.2.2)).contains e2.2.2) (g := fun e2 : Iid × AV × Nat => !(ps.map (·.2.2)).contains e2.2.2) (p := e) (fun x hx => by simp at hx ⊢; exact fun a b hab => hx.1 a b hab) (by simpa using hns2) (by simp) he
        refine ⟨_, hlt, ps ++ [e], X ++ [.cells [iv e.1.e, iv e.1.n, iv e.1.o]], rfl, fun x hx => ?_, fun x hx => ?_, ?_⟩
        · rcases List.mem_append.1 hx with hx | hx
          · exact hps x hx
          · simp at hx; rw [hx]; exact he
        · rcases List.mem_append.1 hx with hx | hx
          · exact hin x hx
          · simp at hx; rw [hx]; exact hk
        · rw [show (ps ++ [e]).map (·.2.2) = ps.map (·.2.2) ++ [e.2.2] by simp]
          exact st_keep' (by simp []) (by simp [])
  · exact ⟨[], [], rfl, by simp, by simp, st_keep' (by simp []) (by simp [])⟩
end Go.Proofs.Ytajgeofhlgoifaa.I

/- Sets of instances: Same, Has, Valid. -/
set_option linter.unusedVariables false
set_option linter.unusedSimpArgs false
set_option maxRecDepth 20000
namespace Go.Proofs.Ytajgeofhlgoifaa.I
open Go Go.Proofs.Ytajgeofhlgoifaa.V Go.RowKit
theorem nd_len {a b : List Iid} (ha : a.Nodup) (hb : b.Nodup) (h : ∀ x, x ∈ a ↔ x ∈ b) : a.length = b.length :=
  Nat.le_antisymm (List.Nodup.length_le_of_subset ha fun x hx => (h x).1 hx) (List.Nodup.length_le_of_subset hb fun x hx => (h x).2 hx)
theorem key_in (k : Iid) (p : MS) : (keyAt k p.1).isSome = true ↔ k ∈ keys p := by
  cases hk : keyAt k p.1 with
  | none =>
    have := keyAt_none.1 hk
    simp only [Option.isSome_none, Bool.false_eq_true, false_iff]
    intro h
    obtain ⟨e, he, e2⟩ := List.mem_map.1 h
    exact this e he e2
  | some j =>
    obtain ⟨hj, e⟩ := keyAt_some hk
    simp only [Option.isSome_some, true_iff]
    exact List.mem_map.2 ⟨_, List.getElem_mem hj, e⟩
theorem same_iff (a b : List Iid) : sameB (ms a) (ms b) = decide (clean a = clean b) := by
  rw [Bool.eq_iff_iff, decide_eq_true_eq]
  unfold sameB
  rw [Bool.and_eq_true, decide_eq_true_eq, List.all_eq_true]
  have la : (keys (ms a)).length = (ms a).1.length := by simp [keys]
  have lb : (keys (ms b)).length = (ms b).1.length := by simp [keys]
  constructor
  · rintro ⟨h1, h2⟩
    have hs : ∀ x ∈ keys (ms a), x ∈ keys (ms b) := fun x hx => by
      obtain ⟨e, he, rfl⟩ := List.mem_map.1 hx
      exact (key_in _ _).1 (h2 e he)
    refine clean_ext fun x => ?_
    rw [← ms_mem a, ← ms_mem b]
    refine ⟨hs x, fun hx => Classical.byContradiction fun hn => ?_⟩
    have h3 := List.Nodup.length_le_of_subset (l₁ := x :: keys (ms a)) (l₂ := keys (ms b)) (List.nodup_cons.2 ⟨hn, (ms_wf a).ky⟩) fun y hy => by
      rcases List.mem_cons.1 hy with rfl | hy
      · exact hx
      · exact hs y hy
    simp at h3
    omega
  · intro h
    have hm : ∀ x, x ∈ keys (ms a) ↔ x ∈ keys (ms b) := fun x => by rw [ms_mem, ms_mem, ← clean_mem a, h, clean_mem]
    have := nd_len (ms_wf a).ky (ms_wf b).ky hm
    refine ⟨by rw [← la, ← lb]; exact this, fun e he => (key_in _ _).2 ((hm _).1 (List.mem_map.2 ⟨e, he, rfl⟩))⟩
theorem same_ok (a b : List Iid) (t u : Tok) (ha : a.length ≤ 10000) (hb : b.length ≤ 10000) (h : AHeap) : ACalls Try.prog 26 [.list (a.map Iid.av) t, .list (b.map Iid.av) u] h fun r h' => r = .bool (decide (clean a = clean b)) ∧ h' = h := by
  refine acalls_of_awp Try.func26 rfl (by simp only [List.length_cons, List.length_nil]; decide) ?_
  simp only [params_cons, params_nil]
  repeat (first | ((first | refine zd ?_ | refine zx ?_ | refine zk ?_ | refine zl ?_ | refine zr ?_); refine zq ?_) | refine zs ?_ | refine zg ?_ | refine zb ?_ | refine zo ?_ | refine zt ?_ | refine zf ?_)
  refine goes_callS (callable_of Try.func49) (by simp -implicitDefEqProofs (disch := (first | omega | (simp; done) | fail)) [if_pos, if_neg, wrap_i64, tmod_pos, tdiv_pos, Int.toNat_add, lv] <;> first | rfl | omega) _ (of_ok [a] .no (by simp) (by simp; omega) _) ?_
  rintro _ _ ⟨rfl, X, rfl⟩
  rw [show [a].flatten = a by simp]
  refine ze ?_
  refine goes_callS (callable_of Try.func49) (by simp -implicitDefEqProofs (disch := (first | omega | (simp; done) | fail)) [if_pos, if_neg, wrap_i64, tmod_pos, tdiv_pos, Int.toNat_add, lv] <;> first | rfl | omega) _ (of_ok [b] .no (by simp) (by simp; omega) _) ?_
  rintro _ _ ⟨rfl, Y, rfl⟩
  rw [show [b].flatten = b by simp]
  refine ze ?_
  have hma := ms_len a
  have hmb := ms_len b
  refine zp (callable_of Try.func48) _ (equal_ok (ms a) (ms b) (ms_wf a) (ms_all a) (ms_all b) (by omega) (by omega) h.length (h.length + (X.length + 1)) (h ++ (ms a).o :: (X ++ (ms b).o :: Y)) (by simp) (by rw [List.getElem?_append_right (by omega)]; simp)) ?_
  rintro _ _ ⟨rfl, rfl⟩
  rw [same_iff]
  refine ze ?_
  repeat (first | ((first | refine zd ?_ | refine zx ?_ | refine zk ?_ | refine zl ?_ | refine zr ?_); refine zq ?_) | refine zs ?_ | refine zg ?_ | refine zb ?_ | refine zo ?_ | refine zt ?_ | refine zf ?_)
  first | refine zy (.inr rfl) ?_ | refine zy (.inl rfl) ?_
  simp
theorem eqb (a b : Iid) : (a.e == b.e && (a.n == b.n && a.o == b.o)) = decide (a = b) := by
  obtain ⟨a1, a2, a3⟩ := a
  obtain ⟨b1, b2, b3⟩ := b
  rw [Bool.eq_iff_iff]
  simp
theorem neb (a b : Iid) : (a.e != b.e || (a.n != b.n || a.o != b.o)) = !decide (a = b) := by
  rw [← eqb]
  simp [bne, Bool.not_and]
theorem index_ok (l : List Iid) (x : Iid) (t : Tok) (hl : l.length ≤ 100000) (h : AHeap) : ACalls Try.prog 70 [.list (l.map Iid.av) t, Iid.av x] h fun r h' => (∃ z : Int, r = iv z ∧ decide (0 ≤ z) = l.contains x) ∧ h' = h := by
  have hu : uni 3 (l.map Iid.av) = true := uni_map fun _ => rfl
  unfold Iid.av
  rw [show (fun x => AV.agg (Iid.c x)) = Iid.av from rfl]
  unfold Iid.c
  refine acalls_of_awp Try.func70 rfl (by simp only [List.length_cons, List.length_nil]; decide) ?_
  simp only [params_cons, params_nil]
  refine awp_seq ?_
  refine zg ?_
  refine goes_done ?_
  (try simp only [vq, if_true, reduceIte, Nat.reduceEqDiff, reduceCtorEq])
  refine awp_hard (id := h.length) (by simp -implicitDefEqProofs; rfl) ?_
  simp -implicitDefEqProofs only [Slots.melt, AV.melt, Nat.add_left_cancel_iff, Nat.add_eq_left, Nat.left_eq_add, Nat.reduceEqDiff, reduceIte, Nat.succ_ne_self, Nat.one_ne_zero, Nat.zero_ne_one, List.set_append_right, List.set_append_left, Nat.sub_self, Nat.le_refl, Nat.add_sub_cancel_left, Nat.le_add_right, List.set_cons_zero, List.set_cons_succ]
  repeat (first | ((first | refine zd ?_ | refine zx ?_ | refine zk ?_ | refine zl ?_ | refine zr ?_); refine zq ?_) | refine zs ?_ | refine zg ?_ | refine zb ?_ | refine zo ?_ | refine zt ?_ | refine zf ?_)
  refine awp_loop (fun z st => ∃ (j : Nat), z = l.length - j ∧ j ≤ l.length ∧ (∀ y ∈ l.take j, y ≠ x) ∧ st.le ⟨Try.f70.ntmps, [(3, .ref [iv x.e, iv x.n, iv x.o] 0), (6, .list (l.map Iid.av) t), (0, .list (l.map Iid.av) t), (7, iv (l.length : Nat)), (8, iv (j : Nat))], h ++ [.dead]⟩) l.length ?_ ?_
  rotate_left
  rintro z st ⟨j, rfl, hj, hno, hle⟩
  · refine awp_le hle ?_
    clear hle
    by_cases h10 : j = l.length
    · subst h10
      have q5 : ¬ (l.length : Int) < (l.length : Int) := by omega
      rw [List.take_length] at hno
      have hc : l.contains x = false := by simpa using fun hx => hno x hx rfl
      repeat (first | ((first | refine zd ?_ | refine zx ?_ | refine zk ?_ | refine zl ?_ | refine zr ?_); refine zq ?_) | refine zs ?_ | refine zh (by simp -implicitDefEqProofs (disch := (first | omega | (simp; done) | fail)) [if_pos, if_neg, wrap_i64, tmod_pos, tdiv_pos, Int.toNat_add, q5]; rfl) ?_ | refine zb ?_ | refine zo ?_ | refine zt ?_ | refine zf ?_)
      first | refine zy (.inr rfl) ?_ | refine zy (.inl rfl) ?_
      exact ⟨⟨-1, rfl, by rw [hc]; rfl⟩, rfl⟩
    have hlt : j < l.length := by omega
    have q5 : (j : Int) < (l.length : Int) := by omega
    have hx3 : (l.map Iid.av)[j]? = some (Iid.av l[j]) := by simp [hlt]
    have htk2 : l.take (j + 1) = l.take j ++ [l[j]] := List.take_succ_eq_append_getElem hlt
    have hmem : l[j] ∈ l := List.getElem_mem hlt
    generalize l[j] = k at *
    have hlt2 : (j : Int) < 100000 := by omega
    clear hlt
    repeat (first | ((first | refine zd ?_ | refine zx ?_ | refine zk ?_ | refine zl ?_ | refine zr ?_); refine zq ?_) | refine zs ?_ | refine zh (by simp -implicitDefEqProofs (disch := (first | omega | (simp; done) | fail)) [if_pos, if_neg, wrap_i64, tmod_pos, tdiv_pos, Int.toNat_add, q5]; rfl) ?_ | refine zb ?_ | refine zo ?_ | refine zt ?_ | refine zf ?_)
    by_cases hk : x = k
    · subst hk
      have hc : l.contains x = true := by simpa using hmem
      refine awp_draw (.q 0 (.q 1 (.q 2 (.q 3 (.q 4 (.q 5 (.done))))))) (by kernel_rfl) (by kernel_rfl) (tree_start (goesT_eq (by simp -implicitDefEqProofs (disch := (first | omega | (simp; done) | fail)) [if_pos, if_neg, wrap_i64, tmod_pos, tdiv_pos, Int.toNat_add, hx3, hu, Iid.av, Iid.c]; rfl) ?_))
      refine goesT_done ?_
      (try simp only [vq, if_true, reduceIte, Nat.reduceEqDiff, reduceCtorEq])
      repeat (first | ((first | refine zd ?_ | refine zx ?_ | refine zk ?_ | refine zl ?_ | refine zr ?_); refine zq ?_) | refine zs ?_ | refine zg ?_ | refine zb ?_ | refine zo ?_ | refine zt ?_ | refine zf ?_)
      first | refine zy (.inr rfl) ?_ | refine zy (.inl rfl) ?_
      exact ⟨⟨j, rfl, by rw [hc]; simp⟩, rfl⟩
    · have he : (x.e == k.e && (x.n == k.n && x.o == k.o)) = false := by rw [eqb]; simpa using hk
      refine awp_draw (.q 0 (.q 1 (.q 2 (.q 3 (.q 4 (.q 5 (.done))))))) (by kernel_rfl) (by kernel_rfl) (tree_start (goesT_eq (by simp -implicitDefEqProofs (disch := (first | omega | (simp; done) | fail)) [if_pos, if_neg, wrap_i64, tmod_pos, tdiv_pos, Int.toNat_add, hx3, hu, Iid.av, Iid.c]; rfl) ?_))
      refine goesT_done ?_
      (try simp only [vq, if_true, reduceIte, Nat.reduceEqDiff, reduceCtorEq])
      refine awp_cond_f (by simp [he]) ?_
      repeat (first | ((first | refine zd ?_ | refine zx ?_ | refine zk ?_ | refine zl ?_ | refine zr ?_); refine zq ?_) | refine zs ?_ | refine zg ?_ | refine zb ?_ | refine zo ?_ | refine zt ?_ | refine zf ?_)
      refine ⟨l.length - (j + 1), by omega, j + 1, rfl, by omega, fun y hy => ?_, st_keep' (by simp []) (by simp [])⟩
      rw [htk2] at hy
      rcases List.mem_append.1 hy with hy | hy
      · exact hno y hy
      · simp at hy; rw [hy]; exact fun e => hk e.symm
  · exact ⟨0, rfl, by omega, by simp, st_keep' (by simp []) (by simp [])⟩
theorem contains_ok (l : List Iid) (x : Iid) (t : Tok) (hl : l.length ≤ 100000) (h : AHeap) : ACalls Try.prog 57 [.list (l.map Iid.av) t, Iid.av x] h fun r h' => r = .bool (l.contains x) ∧ h' = h := by
  have hi := fun h => index_ok l x .no hl h
  unfold Iid.av at hi ⊢
  rw [show (fun x => AV.agg (Iid.c x)) = Iid.av from rfl] at hi ⊢
  unfold Iid.c at hi ⊢
  refine acalls_of_awp Try.func57 rfl (by simp only [List.length_cons, List.length_nil]; decide) ?_
  simp only [params_cons, params_nil]
  repeat (first | ((first | refine zd ?_ | refine zx ?_ | refine zk ?_ | refine zl ?_ | refine zr ?_); refine zq ?_) | refine zs ?_ | refine zg ?_ | refine zb ?_ | refine zo ?_ | refine zt ?_ | refine zf ?_)
  refine zp (callable_of Try.func70) _ (hi _) ?_
  rintro _ _ ⟨⟨z, rfl, hz⟩, rfl⟩
  refine ze ?_
  rw [hz]
  repeat (first | ((first | refine zd ?_ | refine zx ?_ | refine zk ?_ | refine zl ?_ | refine zr ?_); refine zq ?_) | refine zs ?_ | refine zg ?_ | refine zb ?_ | refine zo ?_ | refine zt ?_ | refine zf ?_)
  first | refine zy (.inr rfl) ?_ | refine zy (.inl rfl) ?_
  simp
def within (n m : Int) : Bool := decide (0 ≤ n ∧ n ≤ m)
def validB (x : Iid) : Bool := within x.e 1048576 && (within x.n 31 && within x.o 1099511627776)
end Go.Proofs.Ytajgeofhlgoifaa.I
