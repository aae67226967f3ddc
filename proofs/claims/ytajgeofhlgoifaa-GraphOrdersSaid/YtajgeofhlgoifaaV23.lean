/- Slices whose cells turn: made by append or make, written, copied into, and fixed at last. No program is named here. -/
import Derived.Test.YtajgeofhlgoifaaV20
import Derived.Laws.CopyRow
set_option linter.unusedVariables false
set_option linter.unusedSimpArgs false
namespace Go.Proofs.Ytajgeofhlgoifaa.V
open Go Go.RowKit
section
variable {P : Program} {E : Env P} {w0 w : World} {g : Ghost} {h : AHeap}
theorem AV.one_cells {x : AV} (h : x.one = true) : x.cells = [x] := by cases x <;> first | rfl | cases h
theorem ones_get {xs : List AV} (h : ones xs = true) {i : Nat} (hi : i < xs.length) : xs[i].one = true := by
  unfold ones at h
  exact List.all_eq_true.1 h _ (List.getElem_mem hi)
/-! Operations of a region, one by one. -/
theorem aope_of_gives {o : Oper} {st : ASt} {K : AV → AHeap → Prop} {s : Act → Sem Value} (hex : ∀ a : Act, execOp a.eval o = (do let r ← s a; pure (Next.value r) : Sem Next)) (hd : ∀ c, o.op ≠ .defer c)
    (hg : ∀ w0 g w a, StRel g st a → Sim w0 g st.h w → ∃ x h', K x h' ∧ Gives P w0 g w x h' (s a)) : AOpE E o st K := fun m w0 g w a hC r S next Q hn => by
  refine opwp_rf hd ?_
  obtain ⟨x, h', hk, v, w', g', hr, l, hv, S'⟩ := hg w0 g w a r S
  unfold Oper.wp
  rw [hex a, Sem.run_bind, hr]
  exact hn v w' g' x h' l hv S' hk
theorem aops_run {ops : Array Oper} {n : Nat} {l2 : List Oper} {K : ASt → Prop} : ∀ {l1 : List Oper} {s : Slots} {h : AHeap}, ARun E ops n l1 s h (fun s' h' => AOps E ops l2 ⟨n, s', h'⟩ K) → AOps E ops (l1 ++ l2) ⟨n, s, h⟩ K
  | [], s, h, k => by unfold ARun at k; exact k
  | o :: l, s, h, k => by
    unfold ARun at k
    exact wantedThen_mono (fun k => (astepE_sound (o := o) (st := ⟨n, s, h⟩) k).mono fun x h' k' => aops_run k') (fun k => aops_run k) k
theorem aops_one {ops : Array Oper} {o : Oper} {r : List Oper} {st : ASt} {K : ASt → Prop} (hg : o.guard = none) (k : AOpE E o st fun x h => AOps E ops r ⟨st.n, Slots.put st.n st.s o.dst x, h⟩ K) : AOps E ops (o :: r) st K := by
  unfold AOps
  have : guardB ops st.s o = .bool true := by unfold guardB; rw [hg]
  rw [this]
  exact k
theorem aops_last {ops : Array Oper} {n : Nat} {l : List Oper} {s : Slots} {h : AHeap} {K : Slots → AHeap → Prop} (k : ARun E ops n l s h K) : AOps E ops l ⟨n, s, h⟩ (fun st => st.n = n ∧ K st.s st.h) := arun_ops k
theorem aops_end {ops : Array Oper} {n : Nat} {l : List Oper} {s : Slots} {h : AHeap} {Q : Post} (k : ARun E ops n l s h fun s h => Q .normal ⟨n, s, h⟩) : AOps E ops l ⟨n, s, h⟩ (fun st => st.n = n ∧ Q .normal ⟨n, st.s, st.h⟩) := arun_ops k
/-- A region, walked up to an operation that has a rule of its own. -/
theorem awp_region_at {id : Nat} {l l1 l2 : List Oper} {Q : Post} {n : Nat} {s : Slots} {h : AHeap} (k0 : Nat) (h1 : l.take k0 = l1) (h2 : l.drop k0 = l2)
    (k : ARun E l.toArray n l1 s h fun s' h' => AOps E l.toArray l2 ⟨n, s', h'⟩ fun st => st.n = n ∧ Q .normal ⟨n, st.s, st.h⟩) : AWP E (.region id l.toArray false) Q ⟨n, s, h⟩ := by
  have k2 : AOps E l.toArray l ⟨n, s, h⟩ (fun st => st.n = n ∧ Q .normal ⟨n, st.s, st.h⟩) := by
    have := aops_run k
    rwa [← h1, ← h2, List.take_append_drop] at this
  exact AWP.mono (Q := fun e st => e = .normal ∧ st.n = n ∧ Q .normal ⟨n, st.s, st.h⟩) (fun m w0 g w a hC r S => wpIn_region_lit (aops_sound l _ _ k2 m w0 g w a hC r S fun st g' a' w' l' r' S' q => ⟨st, g', l', r', S', rfl, q⟩)) (fun e st ⟨h1, h2, h3⟩ => by subst h1; subst h2; exact h3)
/-! New ones. -/
theorem new_arr (S : Sim w0 g h w) {cs : List AV} {vs : Array Value} {n : Nat} (t : TypeId) (hc : CellsRel g cs vs.toList) (hn : n ≤ vs.size) (hm : vs.size ≤ maxLen) :
    g.le (g.push (.blk w.heap.size)) ∧ Sim w0 (g.push (.blk w.heap.size)) (h ++ [.cells cs]) (w.alloc (.cells vs t)) ∧ VRel (g.push (.blk w.heap.size)) (.arr h.length 0 n vs.size) (.slice (some ⟨w.heap.size, 0, none⟩) n vs.size) := by
  obtain ⟨l, S', r⟩ := new_obj S t hc
  exact ⟨l, S', .arr _ _ _ _ _ _ (by rw [S.n]; exact Nat.lt_succ_self _) (by rw [S.n]; exact Ghost.push_at g _) hn hm (fun _ => rfl)⟩
theorem append_arr (S : Sim w0 g h w) {t t2 ty e : TypeId} {by_ : Nat} {zc : List AV} (ht : P.underlying t = some (.slice e)) (hs : sizeT P e = some 1) (hb : bytesT P e = some by_) (hz : zeroCells P e = some zc) (hzl : zc.length = 1) {ys : List AV} {y : AV} (hy : newsA P t2 e y = some ys) (ho : ones ys = true)
    (hbb : ys.length * by_ ≤ 140737488355328) (h63 : ys.length ≤ 140737488355328) (hne : 0 < ys.length) {vs vy : Value} (rs : VRel g (.list [] .full) vs) (ry : VRel g y vy) :
    ∃ (c : Nat) (u : List AV), ys.length ≤ c ∧ Gives P w0 g w (.arr h.length 0 ys.length c) (h ++ [.cells (ys ++ u)]) (Builtin.append_ #[t, t2] ty #[vs, vy]) := by
  have huy : uni 1 ys = true := by
    unfold uni; rw [List.all_eq_true]; intro x hx
    obtain ⟨i, hi, rfl⟩ := List.getElem_of_mem hx
    simp [AV.one_cells (ones_get ho hi)]
  have hol : onesL ys = true := by
    unfold onesL; rw [List.all_eq_true]; intro x hx
    obtain ⟨i, hi, rfl⟩ := List.getElem_of_mem hx
    rw [AV.one_cells (ones_get ho hi)]; simpa [ones, -AV.one] using ones_get ho hi
  obtain ⟨⟨news, N⟩, ht2⟩ := newsA_sound (P := P) (g := g) hy hs (by omega) huy hol ry
  obtain ⟨A, c, rfl, hcc, hm, hnn, htok, hL⟩ := rs.list_eq
  obtain rfl : c = 0 := htok
  obtain ⟨it, zv, hi, hzv, hzr⟩ := zeroCells_spec (P := P) (g := g) hz
  have hby : it.bytes = by_ := by simpa [bytesT, hi] using hb
  have hzs : zv.cells.size = 1 := by have := hzr.1; simp at this; omega
  have hag : Agree g w.drew := fun b o v h => by simpa using S.imm b o v h
  obtain ⟨b, o, u, L⟩ := hL 1 (by rfl)
  have hrun := append_grow (P := P) (g := g) (w := w) t t2 ty e ht hs hi hzv ht2 N S.agree (c := 0) (n := 0) (A := A) (by omega) (L.first (by omega) hnn hcc w.drew hag) (by rw [hby, Nat.zero_add]; exact hbb) (by omega)
  have hcap1 := grownCap_ge w (0 + ys.length) 0 e
  have hcap2 := grownCap_le_maxLen w (0 + ys.length) 0 e (by unfold maxLen; omega)
  simp only [Nat.zero_add, List.length_nil, Nat.zero_mul, List.range_zero, List.map_nil, List.nil_append] at hrun hcap1 hcap2
  generalize hcap : grownCap w ys.length 0 e = cap at hrun hcap1 hcap2
  have hln : (news ++ (Builtin.zeroCells zv.cells (cap - ys.length)).toList).length = cap := by
    simp only [List.length_append, N.size, Array.length_toList, size_zeroCells, hzs]; omega
  have hsz : (news ++ (Builtin.zeroCells zv.cells (cap - ys.length)).toList).toArray.size = cap := by
    rw [List.size_toArray, hln]
  have hc : CellsRel g (ys ++ List.replicate (cap - ys.length) .undef) (news ++ (Builtin.zeroCells zv.cells (cap - ys.length)).toList).toArray.toList := by
    refine ⟨by rw [List.length_append, List.length_replicate, List.toList_toArray, hln]; omega, fun i h1 h2 => ?_⟩
    by_cases hi : i < ys.length
    · have e1 : (ys ++ List.replicate (cap - ys.length) AV.undef)[i] = ys[i] := List.getElem_append_left hi
      have hin : i < news.length := by rw [N.size]; omega
      have e2 : (news ++ (Builtin.zeroCells zv.cells (cap - ys.length)).toList).toArray.toList[i] = news[i] := by
        simp [List.getElem_append_left hin]
      rw [e1, e2]
      have h3 := AV.one_cells (ones_get ho hi)
      have := N.rel i hi 0 (by rw [h3]; simp)
      simp only [h3, Nat.mul_one, Nat.add_zero, List.getElem_cons_zero, List.getD_eq_getElem?_getD, List.getElem?_eq_getElem hin, Option.getD_some] at this
      exact this
    · have e1 : (ys ++ List.replicate (cap - ys.length) AV.undef)[i] = .undef := by
        rw [List.getElem_append_right (by omega)]; simp
      rw [e1]; exact .undef _
  obtain ⟨l, S', r⟩ := new_arr (n := ys.length) S.drew e hc (by rw [hsz]; exact hcap1) (by rw [hsz]; exact hcap2)
  rw [hsz] at r
  refine ⟨cap, _, hcap1, _, _, _, ?_, l, r, S'⟩
  exact hrun
theorem make_arr (S : Sim w0 g h w) {t e : TypeId} {by_ : Nat} {z : AV} {kl kc : IntKind} {n : Nat} (ht : P.underlying t = some (.slice e)) (hs : sizeT P e = some 1) (hb : bytesT P e = some by_) (hz : zeroA P e = some z) (hkn : z.known = true) (hz1 : z.cells = [z])
    (hbb : by_ * n ≤ 140737488355328) (h63 : n ≤ 140737488355328) {vl vc : Value} (rl : VRel g (.int kl (n : Nat)) vl) (rc : VRel g (.int kc (n : Nat)) vc) :
    Gives P w0 g w (.arr h.length 0 n n) (h ++ [.cells (List.replicate n z)]) (Instr.makeSlice t vl vc) := by
  rw [rl.int_eq, rc.int_eq]
  have hzc : zeroCells P e = some z.cells := by unfold zeroCells; rw [hz]; simp only [hkn, if_true]
  obtain ⟨it, zv, hi, hzv, hzr⟩ := zeroCells_spec (P := P) (g := g) hzc
  have hzs : zv.cells.size = 1 := by have := hzr.1; rw [hz1] at this; simp only [List.length_singleton, Array.length_toList] at this; exact this.symm
  have hsz : it.size = 1 := by simpa [sizeT, hi] using hs
  have hby : it.bytes = by_ := by simpa [bytesT, hi] using hb
  have hb2 : (by_ : Int) * (n : Int) ≤ 140737488355328 := by
    have : ((by_ * n : Nat) : Int) ≤ ((140737488355328 : Nat) : Int) := Int.ofNat_le.2 hbb
    rw [Int.natCast_mul] at this; exact this
  have hrun := run_make (P := P) w t e it zv ht hi hzv kl kc n n (by omega) (Int.le_refl _) (by rw [hby]; exact Int.le_trans hb2 (by decide)) (by omega)
  rw [hsz] at hrun
  simp only [Int.toNat_natCast, Nat.mul_one] at hrun
  have hcs : (madeCells zv.cells n).size = n := size_madeCells _ _
  have hc : CellsRel g (List.replicate n z) (madeCells zv.cells n).toList := by
    refine ⟨by rw [List.length_replicate, Array.length_toList, hcs], fun i h1 h2 => ?_⟩
    have hin : i < n := by simpa using h1
    have e1 : (List.replicate n z)[i] = z := by simp
    have e2 : (madeCells zv.cells n).toList[i] = zv.cells[0]'(by omega) := by
      simp [madeCells, hin, hzs, Nat.mod_one, getElem!_pos zv.cells 0 (by omega)]
    rw [e1, e2]
    have := hzr.2 0 (by rw [hz1]; simp) (by simp; omega)
    simp only [hz1, List.getElem_cons_zero] at this
    simpa using this
  obtain ⟨l, S', r⟩ := new_arr (n := n) S e hc (by rw [hcs]; exact Nat.le_refl _) (by rw [hcs]; unfold maxLen; omega)
  rw [hcs] at r
  exact ⟨_, _, _, hrun, l, r, S'⟩
theorem set_same {h : AHeap} {id : Nat} {o : AObj} (ho : h[id]? = some o) : h.set id o = h := by
  apply List.ext_getElem?
  intro i
  rw [List.getElem?_set]
  split
  · rename_i e; subst e; obtain ⟨h1, h2⟩ := List.getElem?_eq_some_iff.1 ho; rw [if_pos h1, List.getElem?_eq_getElem h1, h2]
  · rfl
theorem copy_arr (S : Sim w0 g h w) {t t2 ty e : TypeId} {id n c : Nat} {cs ys : List AV} {tk : Tok} (ht : P.underlying t = some (.slice e)) (hs : sizeT P e = some 1) (ho : h[id]? = some (.cells cs)) (hn : ys.length ≤ n) (hnc : n ≤ cs.length) (h1 : ones ys = true)
    {vx vy : Value} (rx : VRel g (.arr id 0 n c) vx) (ry : VRel g (.list ys tk) vy) :
    Gives P w0 g w (.int .i64 (ys.length : Nat)) (h.set id (.cells (ys ++ cs.drop ys.length))) (Builtin.copy_ #[t, t2] ty #[vx, vy]) := by
  obtain ⟨hid, b, o, hb, hc, hm, ho0, rfl⟩ := rx.arr_eq
  have huy : uni 1 ys = true := by
    unfold uni; rw [List.all_eq_true]; intro x hx
    obtain ⟨i, hi, rfl⟩ := List.getElem_of_mem hx
    simp [AV.one_cells (ones_get h1 hi)]
  obtain ⟨A, c2, rfl, hcc, hm2, hnn, htok, hL⟩ := ry.list_eq
  obtain ⟨b2, o2, u, L⟩ := hL 1 huy
  have hsz : (P.info? e).map (·.size) = some 1 := by simpa [sizeT] using hs
  obtain ⟨hbase, vs, tt, h2, h3, h4⟩ := block_cells S ho hb
  have hlen : cs.length = vs.size := by simpa using h3.1
  by_cases h0 : ys.length = 0
  · have hy : ys = [] := List.eq_nil_of_length_eq_zero h0
    subst hy
    have hr := run_copy_none (P := P) w t t2 ty e (some ⟨b, o, none⟩) A n c 0 c2 ht hsz (by simp)
    refine ⟨_, w, g, hr, .refl g, .int _ _, ?_⟩
    simp only [List.nil_append, List.length_nil, List.drop_zero]
    rw [set_same ho]; exact S
  · obtain rfl := L.ha (by omega)
    obtain rfl := ho0 (by omega)
    let us : List Value := (List.range ys.length).map u
    have hul : us.length = ys.length := by simp [us]
    have hug : ∀ j (hj : j < ys.length), us[j]? = some (u j) := fun j hj => by simp [us, hj]
    have hrel : ∀ j (hj : j < ys.length), VRel g ys[j] (u j) := fun j hj => by
      have h5 := AV.one_cells (ones_get h1 hj)
      have := L.rel j hj 0 (by rw [h5]; simp)
      simpa only [h5, Nat.mul_one, Nat.add_zero, List.getElem_cons_zero] using this
    have hone : ∀ v ∈ us, v.oneCell' = true := fun v hv => by
      obtain ⟨j, hj, rfl⟩ := List.getElem_of_mem hv
      have hj' : j < ys.length := by omega
      have e1 := hug j hj'
      rw [List.getElem?_eq_getElem hj] at e1
      injection e1 with e1
      rw [e1]; exact AV.one_spec (ones_get h1 hj') (hrel j hj')
    have hr := run_copy_row (P := P) w t t2 ty e b 0 n c ⟨b2, o2, none⟩ ys.length c2 vs tt us ht hsz h2 (by rw [hul]; exact (Nat.min_eq_left hn).symm) (fun j v hj => by
      have hj' : j < ys.length := by rw [← hul]; exact (List.getElem?_eq_some_iff.1 hj).1
      rw [hug j hj'] at hj; injection hj with hj
      have := S.imm _ _ _ (L.cell j hj' 0 (by omega))
      rw [← hj]
      rw [Addr.add_lit]
      simpa using this) (by omega) hone
    rw [hul] at hr
    have hr2 : (w.setRow b (vs.toList.take 0 ++ us ++ vs.toList.drop (0 + ys.length)).toArray).heap[b]? = some (.cells (vs.toList.take 0 ++ us ++ vs.toList.drop (0 + ys.length)).toArray tt (0, 0)) := setRow_heap w b vs _ tt _ h2
    refine ⟨_, _, g, hr, .refl g, .int _ _, ?_⟩
    refine S.turn (o' := .cells (ys ++ cs.drop ys.length)) ho (by simp) (b := b) (by rw [hb]; rfl) (by simp [World.setRow]) rfl rfl rfl (fun k _ hk => setRow_other w b k _ hk) (fun o v e => by rw [h4 o] at e; cases e) (fun o v e => by rw [h4 o] at e; cases e) ?_
    rw [hb]
    refine ⟨hbase, ⟨_, tt, hr2, ?_⟩, h4⟩
    have := h3.over (xs := ys) (us := us) (off := 0) ⟨by omega, fun i a b => by
      have e1 := hug i a
      rw [List.getElem?_eq_getElem b] at e1
      injection e1 with e1
      rw [e1]; exact hrel i a⟩ (by omega)
    simpa [V.over, hul] using this
/-! What was turned is fixed. -/
def AV.thaw (id n c : Nat) (l : AV) : AV → AV
  | .arr i o m k => if i = id ∧ o = 0 ∧ m = n ∧ k = c then l else .arr i o m k
  | x => x
def Slots.thaw (id n c : Nat) (l : AV) : Slots → Slots
  | [] => []
  | (k, v) :: s => (k, AV.thaw id n c l v) :: Slots.thaw id n c l s
theorem thaw_get (id n c : Nat) (l : AV) : ∀ (s : Slots) (t : Nat), Slots.get (Slots.thaw id n c l s) t = AV.thaw id n c l (Slots.get s t)
  | [], t => rfl
  | (k, v) :: s, t => by
    simp only [Slots.thaw, Slots.get]
    split
    · rfl
    · exact thaw_get id n c l s t
theorem freeze (S : Sim w0 g h w) {id n c : Nat} {cs : List AV} (ho : h[id]? = some (.cells cs)) (h1 : ones (cs.take n) = true) (hn : n ≤ cs.length) :
    ∃ g', g.le g' ∧ Sim w0 g' (h.set id .dead) w ∧ ∀ v, VRel g (.arr id 0 n c) v → VRel g' (.list (cs.take n) (if c = n then .full else .no)) v := by
  have hO := S.obj id _ ho
  cases hat : g.at_ id with
  | tail v => rw [hat] at hO; exact hO.elim
  | loose v => rw [hat] at hO; exact hO.elim
  | blk b =>
    rw [hat] at hO
    obtain ⟨hbase, ⟨vs, tt, h2, h3⟩, h4⟩ := hO
    have hlen : cs.length = vs.size := by simpa using h3.1
    have S1 := S.kill ho
    have hown : ∀ i o, (h.set id .dead)[i]? = some o → o ≠ .dead → (g.at_ i).block ≠ some b := fun i o hi hd e1 => by
      by_cases hne : id = i
      · subst hne
        rw [List.getElem?_set_self (List.getElem?_eq_some_iff.1 ho).1] at hi
        injection hi with hi; exact hd hi.symm
      · rw [List.getElem?_set_ne hne] at hi
        exact hne (S.sep id i _ o b ho hi (by simp) hd (by rw [hat]; rfl) e1)
    obtain ⟨l, S2⟩ := S1.fix (b := b) (lo := 0) (m := n) (u := fun q => vs.getD q .nilIface) (fun i _ hi => by
      rw [cell_of_row _ _ _ _ _ _ h2]
      simp [Array.getD_eq_getD_getElem?, show i < vs.size by omega]) (fun i _ _ _ _ => frozen_no h2) hown
    refine ⟨_, l, S2, fun v hv => ?_⟩
    obtain ⟨hid, b', o, hb, hc, hm, ho0, rfl⟩ := hv.arr_eq
    rw [hat] at hb
    injection hb with hb
    subst hb
    have htl : (cs.take n).length = n := by simp; omega
    have hone : ∀ j (hj : j < (cs.take n).length), (cs.take n)[j].cells = [(cs.take n)[j]] := fun j hj => AV.one_cells (ones_get h1 hj)
    have V := VRel.list (g := g.fix b 0 n fun q => vs.getD q .nilIface) (cs.take n) (if c = n then .full else .no) (some ⟨b, o, none⟩) c 1 b 0 (fun q => vs.getD q .nilIface) (by omega) hm (fun e => by cases e)
      (fun j hj => by rw [hone j hj]; rfl) (fun h0 => by rw [ho0 (by omega)]) (fun j hj i hi => by
        rw [hone j hj] at hi
        obtain rfl : i = 0 := by simpa using hi
        rw [Nat.zero_add]
        exact Ghost.fix_at (Nat.zero_le _) (by omega)) (fun j hj i hi => by
        have hi' : i = 0 := by rw [hone j hj] at hi; simpa using hi
        subst hi'
        simp only [hone j hj, List.getElem_cons_zero, Nat.mul_one, Nat.add_zero]
        have hj' : j < cs.length := by omega
        have := h3.2 j hj' (by simp; omega)
        have e1 : (cs.take n)[j] = cs[j] := by simp
        have e2 : vs.getD j .nilIface = vs.toList[j]'(by simp; omega) := by simp [Array.getD_eq_getD_getElem?, show j < vs.size by omega]
        rw [e1, e2]
        exact this.mono l) (by
        by_cases e : c = n
        · rw [if_pos e]; show c = (cs.take n).length; omega
        · rw [if_neg e]; trivial)
    rw [htl] at V
    exact V
theorem awp_fix0 {id n c m : Nat} {cs : List AV} {code : Code} {Q : Post} {s : Slots} {h : AHeap} (ho : h[id]? = some (.cells cs)) (h1 : ones (cs.take n) = true) (hn : n ≤ cs.length)
    (k : AWP E code Q ⟨m, Slots.thaw id n c (.list (cs.take n) (if c = n then .full else .no)) s, h.set id .dead⟩) : AWP E code Q ⟨m, s, h⟩ := fun m' w0 g w a hC r S => by
  obtain ⟨g', l, S', hv⟩ := freeze S (c := c) ho h1 hn
  have r' : StRel g' ⟨m, Slots.thaw id n c (.list (cs.take n) (if c = n then .full else .no)) s, h.set id .dead⟩ a := ⟨r.defers.mono l, r.size, fun t => by
    have h0 := r.slots t
    show VRel g' (Slots.get (Slots.thaw id n c _ s) t) _
    rw [thaw_get]
    cases hx : Slots.get s t with
    | arr i o2 m2 k2 =>
      simp only at h0
      rw [hx] at h0
      unfold AV.thaw
      simp only
      split
      · rename_i he; obtain ⟨rfl, rfl, rfl, rfl⟩ := he; exact hv _ h0
      · exact h0.mono l
    | _ => simp only at h0; rw [hx] at h0; exact h0.mono l⟩
  exact wpIn_mono (k m' w0 g' w a (E.mono l hC) r' S') fun e a w ⟨s2, g2, l2, r2, S2, q⟩ => ⟨s2, g2, l.trans l2, r2, S2, q⟩
theorem awp_fix {id n c m : Nat} {cs xs : List AV} {code : Code} {Q : Post} {s : Slots} {h : AHeap} (ho : h[id]? = some (.cells cs)) (hx : cs.take n = xs) (h1 : ones xs = true) (hn : n ≤ cs.length)
    (k : AWP E code Q ⟨m, Slots.thaw id n c (.list xs (if c = n then .full else .no)) s, h.set id .dead⟩) : AWP E code Q ⟨m, s, h⟩ := by
  subst hx
  exact awp_fix0 ho h1 hn k
/-! The operations' rules in a region. -/
theorem aops_append {ops : Array Oper} {o : Oper} {r : List Oper} {n : Nat} {s : Slots} {h : AHeap} {K : ASt → Prop} {t t2 e : TypeId} {by_ : Nat} {zc ys : List AV} {x y : Operand} (hop : o.op = .call ⟨.builtin .append, #[x, y], #[t, t2]⟩) (hg : o.guard = none)
    (ht : P.underlying t = some (.slice e)) (hs : sizeT P e = some 1) (hb : bytesT P e = some by_) (hz : zeroCells P e = some zc) (hzl : zc.length = 1) (hx : Slots.ev s x = .list [] .full) (hy : newsA P t2 e (Slots.ev s y) = some ys) (h1 : ones ys = true)
    (hbb : ys.length * by_ ≤ 140737488355328) (h63 : ys.length ≤ 140737488355328) (hne : 0 < ys.length)
    (k : ∀ c u, ys.length ≤ c → AOps E ops r ⟨n, Slots.put n s o.dst (.arr h.length 0 ys.length c), h ++ [.cells (ys ++ u)]⟩ K) : AOps E ops (o :: r) ⟨n, s, h⟩ K :=
  aops_one hg (aope_of_gives (s := fun a => Builtin.append_ #[t, t2] o.type #[a.eval x, a.eval y]) (fun a => by simp [execOp, hop, resolve, invoke, builtin]) (fun c => by rw [hop]; simp) fun w0 g w a ra S => by
    have rx := ra.ev x
    simp only at rx
    rw [hx] at rx
    obtain ⟨c, u, hc, G⟩ := append_arr (P := P) (t2 := t2) (ty := o.type) S ht hs hb hz hzl hy h1 hbb h63 hne rx (ra.ev y)
    exact ⟨_, _, k c u hc, G⟩)
theorem aops_make {ops : Array Oper} {o : Oper} {r : List Oper} {n m : Nat} {s : Slots} {h : AHeap} {K : ASt → Prop} {t e : TypeId} {by_ : Nat} {z : AV} {x y : Operand} {kl kc : IntKind} (hop : o.op = .makeSlice t x y) (hg : o.guard = none)
    (ht : P.underlying t = some (.slice e)) (hs : sizeT P e = some 1) (hb : bytesT P e = some by_) (hz : zeroA P e = some z) (hkn : z.known = true) (hz1 : z.cells = [z]) (hx : Slots.ev s x = .int kl (m : Nat)) (hy : Slots.ev s y = .int kc (m : Nat))
    (hbb : by_ * m ≤ 140737488355328) (h63 : m ≤ 140737488355328)
    (k : AOps E ops r ⟨n, Slots.put n s o.dst (.arr h.length 0 m m), h ++ [.cells (List.replicate m z)]⟩ K) : AOps E ops (o :: r) ⟨n, s, h⟩ K :=
  aops_one hg (aope_of_gives (s := fun a => Instr.makeSlice t (a.eval x) (a.eval y)) (fun a => by simp [execOp, hop]) (fun c => by rw [hop]; simp) fun w0 g w a ra S => by
    have rx := ra.ev x
    have ry := ra.ev y
    simp only at rx ry
    rw [hx] at rx
    rw [hy] at ry
    exact ⟨_, _, k, make_arr (P := P) S ht hs hb hz hkn hz1 hbb h63 rx ry⟩)
theorem aops_copy {ops : Array Oper} {o : Oper} {r : List Oper} {n m c id : Nat} {s : Slots} {h : AHeap} {K : ASt → Prop} {t t2 e : TypeId} {cs ys : List AV} {tk : Tok} {x y : Operand} (hop : o.op = .call ⟨.builtin .copy, #[x, y], #[t, t2]⟩) (hg : o.guard = none)
    (ht : P.underlying t = some (.slice e)) (hs : sizeT P e = some 1) (hx : Slots.ev s x = .arr id 0 m c) (hy : Slots.ev s y = .list ys tk) (ho : h[id]? = some (.cells cs)) (hn : ys.length ≤ m) (hnc : m ≤ cs.length) (h1 : ones ys = true)
    (k : AOps E ops r ⟨n, Slots.put n s o.dst (.int .i64 (ys.length : Nat)), h.set id (.cells (ys ++ cs.drop ys.length))⟩ K) : AOps E ops (o :: r) ⟨n, s, h⟩ K :=
  aops_one hg (aope_of_gives (s := fun a => Builtin.copy_ #[t, t2] o.type #[a.eval x, a.eval y]) (fun a => by simp [execOp, hop, resolve, invoke, builtin]) (fun c => by rw [hop]; simp) fun w0 g w a ra S => by
    have rx := ra.ev x
    have ry := ra.ev y
    simp only at rx ry
    rw [hx] at rx
    rw [hy] at ry
    exact ⟨_, _, k, copy_arr (P := P) S ht hs ho hn hnc h1 rx ry⟩)
end
end Go.Proofs.Ytajgeofhlgoifaa.V
