import Derived.Test.YtajgeofhlgoifaaGF
import Derived.Test.YtajgeofhlgoifaaGI
/- Graphs: are two lists the same? -/
set_option linter.unusedVariables false
set_option linter.unusedSimpArgs false
set_option maxRecDepth 20000
namespace Go.Proofs.Ytajgeofhlgoifaa.G
open Go Go.Proofs.Ytajgeofhlgoifaa.V Go.Proofs.Ytajgeofhlgoifaa.I Go.Sort Go.RowKit
theorem row_ok (a b : List Iid) (t u : Tok) (ha : a.length ≤ 100000) (h : AHeap) : ACalls Try.prog 17 [.list (a.map Iid.av) t, .list (b.map Iid.av) u] h fun r h' => r = .bool (decide (a = b)) ∧ h' = h := by
  have hua : uni 3 (a.map Iid.av) = true := uni_map fun _ => rfl
  have hub : uni 3 (b.map Iid.av) = true := uni_map fun _ => rfl
  refine acalls_of_awp Try.func17 rfl (by simp only [List.length_cons, List.length_nil]; decide) ?_
  simp only [params_cons, params_nil]
  by_cases hlen : a.length = b.length
  case neg =>
    have hb : ((a.length : Int) != (b.length : Int)) = true := by simp; omega
    have hne : a ≠ b := fun e => hlen (by rw [e])
    repeat (first | ((first | refine zd ?_ | refine zx ?_ | refine zk ?_ | refine zl ?_ | refine zr ?_); refine zq ?_) | refine zs ?_ | refine zh (by simp -implicitDefEqProofs (disch := (first | omega | (simp; done) | fail)) [if_pos, if_neg, wrap_i64, tmod_pos, tdiv_pos, Int.toNat_add, hb]; rfl) ?_ | refine zb ?_ | refine zo ?_ | refine zt ?_ | refine zf ?_)
    first | refine zY (.inr rfl) ?_ | refine zY (.inl rfl) ?_
    simp [hne]
  repeat (first | ((first | refine zd ?_ | refine zx ?_ | refine zk ?_ | refine zl ?_ | refine zr ?_); refine zq ?_) | refine zs ?_ | refine zh (by simp -implicitDefEqProofs (disch := (first | omega | (simp; done) | fail)) [if_pos, if_neg, wrap_i64, tmod_pos, tdiv_pos, Int.toNat_add, hlen]; rfl) ?_ | refine zb ?_ | refine zo ?_ | refine zt ?_ | refine zf ?_)
  refine awp_loop (fun z st => ∃ (j : Nat), z = b.length - j ∧ j ≤ b.length ∧ a.take j = b.take j ∧ st.le ⟨Try.f17.ntmps, [(0, .list (a.map Iid.av) t), (1, .list (b.map Iid.av) u), (5, iv (j : Nat))], h⟩) b.length ?_ ?_
  rotate_left
  rintro z st ⟨j, rfl, hj, htk, hle⟩
  · refine awp_le hle ?_
    clear hle
    by_cases h10 : j = b.length
    · subst h10
      have q5 : ¬ (b.length : Int) < (b.length : Int) := by omega
      rw [← hlen, List.take_length, hlen, List.take_length] at htk
      repeat (first | ((first | refine zd ?_ | refine zx ?_ | refine zk ?_ | refine zl ?_ | refine zr ?_); refine zq ?_) | refine zs ?_ | refine zh (by simp -implicitDefEqProofs (disch := (first | omega | (simp; done) | fail)) [if_pos, if_neg, wrap_i64, tmod_pos, tdiv_pos, Int.toNat_add, q5, hlen]; rfl) ?_ | refine zb ?_ | refine zo ?_ | refine zt ?_ | refine zf ?_)
      first | refine zY (.inr rfl) ?_ | refine zY (.inl rfl) ?_
      simp [htk]
    have hlt : j < b.length := by omega
    have hlta : j < a.length := by omega
    have q5 : (j : Int) < (b.length : Int) := by omega
    have hx3 : (a.map Iid.av)[j]? = some (Iid.av a[j]) := by simp [hlta]
    have hx4 : (b.map Iid.av)[j]? = some (Iid.av b[j]) := by simp [hlt]
    have hlt2 : (j : Int) < 100000 := by omega
    have hz : b.length - (j + 1) < b.length - j := by omega
    have hj2 : j + 1 ≤ b.length := by omega
    repeat (first | ((first | refine zd ?_ | refine zx ?_ | refine zk ?_ | refine zl ?_ | refine zr ?_); refine zq ?_) | refine zs ?_ | refine zh (by simp -implicitDefEqProofs (disch := (first | omega | (simp; done) | fail)) [if_pos, if_neg, wrap_i64, tmod_pos, tdiv_pos, Int.toNat_add, q5, hlen]; rfl) ?_ | refine zb ?_ | refine zo ?_ | refine zt ?_ | refine zf ?_)
    by_cases hab : a[j] = b[j]
    · have htk2 : a.take (j + 1) = b.take (j + 1) := by rw [List.take_succ_eq_append_getElem hlta, List.take_succ_eq_append_getElem hlt, htk, hab]
      rw [hab] at hx3
      clear hab
      generalize b[j] = k at *
      clear hlt hlta
      refine awp_draw (.q 0 (.q 1 (.q 2 (.q 3 (.q 4 (.q 5 (.q 6 (.q 7 (.q 8 (.done)))))))))) (by kernel_rfl) (by kernel_rfl) (tree_start (goesT_eq (by simp -implicitDefEqProofs (disch := (first | omega | (simp; done) | fail)) [if_pos, if_neg, wrap_i64, tmod_pos, tdiv_pos, Int.toNat_add, hx3, hx4, hua, hub, Iid.av, Iid.c, hlen, q5]; rfl) ?_))
      refine goesT_done ?_
      (try simp only [vq, if_true, reduceIte, Nat.reduceEqDiff, reduceCtorEq])
      repeat (first | ((first | refine zd ?_ | refine zx ?_ | refine zk ?_ | refine zl ?_ | refine zr ?_); refine zq ?_) | refine zs ?_ | refine zg ?_ | refine zb ?_ | refine zo ?_ | refine zt ?_ | refine zf ?_)
      exact ⟨b.length - (j + 1), hz, j + 1, rfl, hj2, htk2, st_keep' (by simp []) (by simp [])⟩
    · have hne : a ≠ b := fun e => hab (by subst e; rfl)
      have he : (!a[j].e == b[j].e || (!a[j].n == b[j].n || !a[j].o == b[j].o)) = true := by
        have := neb a[j] b[j]
        simp only [bne] at this
        rw [this]; simpa using hab
      clear hab
      generalize a[j] = k at *
      generalize b[j] = k2 at *
      clear hlt hlta
      refine awp_draw (.q 0 (.q 1 (.q 2 (.q 3 (.q 4 (.q 5 (.q 6 (.q 7 (.q 8 (.done)))))))))) (by kernel_rfl) (by kernel_rfl) (tree_start (goesT_eq (by simp -implicitDefEqProofs (disch := (first | omega | (simp; done) | fail)) [if_pos, if_neg, wrap_i64, tmod_pos, tdiv_pos, Int.toNat_add, hx3, hx4, hua, hub, Iid.av, Iid.c, hlen, q5]; rfl) ?_))
      refine goesT_done ?_
      (try simp only [vq, if_true, reduceIte, Nat.reduceEqDiff, reduceCtorEq])
      refine awp_cond_t (by simp only [Slots.ev, Slots.get]; rw [← he]; rfl) ?_
      repeat (first | ((first | refine zd ?_ | refine zx ?_ | refine zk ?_ | refine zl ?_ | refine zr ?_); refine zq ?_) | refine zs ?_ | refine zg ?_ | refine zb ?_ | refine zo ?_ | refine zt ?_ | refine zf ?_)
      first | refine zY (.inr rfl) ?_ | refine zY (.inl rfl) ?_
      simp [hne]
  · exact ⟨0, rfl, by omega, by simp, st_keep' (by simp []) (by simp [])⟩
end Go.Proofs.Ytajgeofhlgoifaa.G

/- Graphs: done in steps it is done the same, in plain words. -/
set_option linter.unusedVariables false
set_option linter.unusedSimpArgs false
set_option maxRecDepth 20000
namespace Go.Proofs.Ytajgeofhlgoifaa.G
open Go Go.Proofs.Ytajgeofhlgoifaa.V Go.Proofs.Ytajgeofhlgoifaa.I Go.Sort Go.RowKit
attribute [-simp] List.length_flatten List.map_flatten
theorem rt_un {dp : Iid → List Iid} {dn : List Iid} {x y : Iid} (h : Tar.Rt dp (dnB dn) x y) : Tar.Rt dp (dnB []) x y := by
  induction h with
  | refl => exact .refl _
  | step s _ ih => exact .step ⟨s.1, by simp [dnB]⟩ ih
theorem rt_dn {dp : Iid → List Iid} {dn : List Iid} {x y : Iid} (h : Tar.Rt dp (dnB []) x y) : (∀ z, Tar.Rt dp (dnB []) x z → Tar.Rt dp (dnB []) z y → z ∉ dn) → Tar.Rt dp (dnB dn) x y := by
  induction h with
  | refl => exact fun _ => .refl _
  | step s r ih =>
    intro h
    refine .step ⟨s.1, ?_⟩ (ih fun z h1 h2 => h z (.step s h1) h2)
    have := h _ (.one s) r
    simp [dnB, this]
theorem lead_split {dp : Iid → List Iid} (dn : List Iid) {x z : Iid} (h : Lead dp [] x z) : Lead dp dn x z ∨ ∃ w ∈ dn, w = z ∨ Lead dp [] w z := by
  induction h with
  | first h => exact .inl (.first h)
  | next _ _ h ih =>
    rename_i u y _ _
    rcases ih with ih | ⟨w, hw, rfl | ih⟩
    · by_cases hu : u ∈ dn
      · exact .inr ⟨u, hu, .inr (.first h)⟩
      · exact .inl (.next ih hu h)
    · exact .inr ⟨w, hw, .inr (.first h)⟩
    · exact .inr ⟨w, hw, .inr (.next ih (by simp) h)⟩
/-- Behind what is done, the rest can be done just when it could. -/
theorem can_dn {l : List Nod} {dn : List Iid} (hd : ∀ w ∈ dn, CanDo l [] w) (x : Iid) : CanDo l dn x ↔ CanDo l [] x ∧ x ∉ dn := by
  refine ⟨fun ⟨h1, h2, h3⟩ => ⟨⟨h1, by simp, fun z hz => .inl ?_⟩, h2⟩, fun ⟨h1, h2⟩ => can_un h1 h2⟩
  rcases lead_split dn hz with h | ⟨w, hw, rfl | h⟩
  · rcases h3 z h with h | h
    · exact h
    · exact (hd z h).1
  · exact (hd w hw).1
  · exact ((hd w hw).2.2 z h).resolve_right (by simp)
theorem steps_plain {l : List Nod} {out p : List (List Iid)} {k : Nat} (h : OrdOk l [] out) (hk : k ≤ out.length) (hp : OrdOk l (out.take k).flatten p) : p = out.drop k := by
  obtain ⟨gs, hG, ⟨grs, hL⟩, rfl⟩ := h
  have hnd : gs.Nodup := hG.ord.imp fun {a b} h e => by subst e; rw [less_lt.irr] at h; cases h
  obtain ⟨h1, _⟩ := Tar.runO_ok gs.length [] gs (Nat.le_refl _) hnd hL
  have hkl : k ≤ gs.length := by rw [← h1.length_eq]; exact hk
  obtain ⟨left, s1, s2, s3, s4⟩ := Tar.runO_drop k gs.length [] gs (Nat.le_refl _) hnd hL hkl
  obtain ⟨gs', hG', ⟨_, _⟩, rfl⟩ := hp
  generalize hout : runG l gs.length [] gs = out at *
  have hout' : Tar.runO (dpOf l) gs.length [] gs = out := hout
  rw [hout'] at h1 s2 s4
  have htk : ∀ g ∈ out.take k, g ∈ gs := fun g hg => h1.mem_iff.1 (List.mem_of_mem_take hg)
  have hdc : ∀ w ∈ (out.take k).flatten, CanDo l [] w := fun w hw => by
    obtain ⟨g, hg, hx⟩ := List.mem_flatten.1 hw
    exact (hG.mem w).1 (List.mem_flatten.2 ⟨g, htk g hg, hx⟩)
  have hdis : ∀ g ∈ left, ∀ x ∈ g, x ∉ (out.take k).flatten := fun g hg x hx hd => by
    obtain ⟨hg1, hg2⟩ := (s2 g).1 hg
    obtain ⟨g', hg', hx'⟩ := List.mem_flatten.1 hd
    have := Tar.grp_eq (keyC_ok l) (hG.grp g hg1) (hG.grp g' (htk g' hg')) (hG.srt g hg1) (hG.srt g' (htk g' hg')) hx hx'
    exact hg2 (this ▸ hg')
  have hleft : GsG l (out.take k).flatten left := by
    refine ⟨fun g hg => ?_, fun g hg => hG.srt g ((s2 g).1 hg).1, fun x => ?_, ?_, hG.ord.sublist s1⟩
    · obtain ⟨hg1, hg2⟩ := (s2 g).1 hg
      have I := hG.grp g hg1
      refine ⟨I.ne, fun x hx y hy => rt_dn (I.each x hx y hy) fun z hz1 hz2 => ?_, fun x hx y h1 h2 => I.all x hx y (rt_un h1) (rt_un h2)⟩
      exact hdis g hg z (I.all x hx z hz1 (hz2.trans (I.each y hy x hx)))
    · rw [can_dn hdc]
      constructor
      · intro hx
        obtain ⟨g, hg, hxg⟩ := List.mem_flatten.1 hx
        exact ⟨(hG.mem x).1 (List.mem_flatten.2 ⟨g, ((s2 g).1 hg).1, hxg⟩), hdis g hg x hxg⟩
      · rintro ⟨hx, hxd⟩
        obtain ⟨g, hg, hxg⟩ := List.mem_flatten.1 ((hG.mem x).2 hx)
        exact List.mem_flatten.2 ⟨g, (s2 g).2 ⟨hg, fun h => hxd (List.mem_flatten.2 ⟨g, h, hxg⟩)⟩, hxg⟩
    · obtain ⟨t, ht⟩ := s1.exists_perm_append
      have := (ht.flatten.nodup_iff).1 hG.nd
      rw [List.flatten_append, List.nodup_append] at this
      exact this.1
  have e := hG'.unique (keyC_ok l) less_lt hleft
  subst e
  rw [s4, s3]
  exact Tar.runO_congr _ (fun x => by simp) _
end Go.Proofs.Ytajgeofhlgoifaa.G

/- Graphs: done in steps it is done the same. -/
set_option linter.unusedVariables false
set_option linter.unusedSimpArgs false
set_option maxRecDepth 20000
namespace Go.Proofs.Ytajgeofhlgoifaa.G
open Go Go.Proofs.Ytajgeofhlgoifaa.V Go.Proofs.Ytajgeofhlgoifaa.I Go.Sort Go.RowKit
attribute [-simp] List.length_flatten List.map_flatten
@[simp] theorem lv_s : AV.strip ∘ lv = lv := s_comp lv_strip
theorem order_sm {l : List Nod} {d0 : List Iid} (hs : Small l d0) (hv : validB l = true) (dn : List Iid) (hd : dn.length ≤ 1000) (H : AHeap) : ACalls Try.prog 13 [.list (l.map Nod.av) .no, .list (dn.map Iid.av) .no] H fun r h' => ∃ (out : List (List Iid)) (X : AHeap), r = .list (out.map lv) .no ∧ h' = H ++ X ∧ OrdOk l dn out :=
  (order_ok l dn .no .no (by have := hs.len; omega) (by omega) hs.w H).mono fun r h' ⟨⟨X, h1⟩, _, h3⟩ => by
    obtain ⟨out, h4, h5⟩ := h3 hv
    exact ⟨out, X, h5, h1, h4⟩
theorem steps_law (l : List Nod) (k : Int) (hk : (Lit.int .i64 k).wf = true) (h : AHeap) : ACalls Try.prog 5 [.list (l.map Nod.av) .no, iv k] h fun r h' => r = .bool true ∧ h' = h := by
  have hu := nod_uni l
  have hov : ∀ h, ACalls Try.prog 11 [.list (l.map Nod.av) .no, .list [] .no] h fun r h' => r = .bool (overB l []) ∧ h' = h := fun h => over_ok l [] .no .no h
  refine acalls_of_awp Try.func5 rfl (by simp only [List.length_cons, List.length_nil]; decide) ?_
  simp only [params_cons, params_nil]
  refine awp_seq ?_
  refine zg ?_
  refine goes_done ?_
  (try simp only [vq, if_true, reduceIte, Nat.reduceEqDiff, reduceCtorEq])
  refine awp_seq ?_
  repeat (first | ((first | refine zd ?_ | refine zx ?_ | refine zk ?_ | refine zl ?_ | refine zr ?_); refine zq ?_) | refine zs ?_ | refine zg ?_ | refine zb ?_ | refine zo ?_ | refine zt ?_ | refine zf ?_)
  refine zp (callable_of Try.func10) _ (works_ok _) ?_
  rintro _ _ ⟨rfl, XW, rfl⟩
  refine ze ?_
  refine goes_done ?_
  (try simp only [vq, if_true, reduceIte, Nat.reduceEqDiff, reduceCtorEq])
  repeat (first | ((first | refine zd ?_ | refine zx ?_ | refine zk ?_ | refine zl ?_ | refine zr ?_); refine zq ?_) | refine zs ?_ | refine zg ?_ | refine zb ?_ | refine zo ?_ | refine zt ?_ | refine zf ?_)
  refine zp (callable_of Try.func11) _ (hov _) ?_
  rintro _ _ ⟨rfl, rfl⟩
  rcases Bool.eq_false_or_eq_true (overB l []) with ho | ho
  · rw [ho]
    refine ze ?_
    repeat (first | ((first | refine zd ?_ | refine zx ?_ | refine zk ?_ | refine zl ?_ | refine zr ?_); refine zq ?_) | refine zs ?_ | refine zg ?_ | refine zb ?_ | refine zo ?_ | refine zt ?_ | refine zf ?_)
    first | refine zy (.inr rfl) ?_ | refine zy (.inl rfl) ?_
    simp
  rw [ho]
  have hs := small_of ho
  have h14 := hs.len
  have hva := fun h => valid_ok l .no (by omega) h
  have hd14 := hs.dn
  refine ze ?_
  refine zp (callable_of Try.func16) _ (hva _) ?_
  rintro _ _ ⟨rfl, XV, rfl⟩
  rcases Bool.eq_false_or_eq_true (validB l) with hv | hv
  rotate_left
  · rw [hv]
    refine ze ?_
    repeat (first | ((first | refine zd ?_ | refine zx ?_ | refine zk ?_ | refine zl ?_ | refine zr ?_); refine zq ?_) | refine zs ?_ | refine zg ?_ | refine zb ?_ | refine zo ?_ | refine zt ?_ | refine zf ?_)
    first | refine zy (.inr rfl) ?_ | refine zy (.inl rfl) ?_
    simp
  rw [hv]
  by_cases hk0 : k < 0
  · refine goes_eq (by simp -implicitDefEqProofs (disch := (first | omega | (simp; done) | fail)) [if_pos, if_neg, wrap_i64, tmod_pos, tdiv_pos, Int.toNat_add, hk0]; rfl) ?_
    repeat (first | ((first | refine zd ?_ | refine zx ?_ | refine zk ?_ | refine zl ?_ | refine zr ?_); refine zq ?_) | refine zs ?_ | refine zg ?_ | refine zb ?_ | refine zo ?_ | refine zt ?_ | refine zf ?_)
    first | refine zy (.inr rfl) ?_ | refine zy (.inl rfl) ?_
    simp
  obtain ⟨n, rfl⟩ : ∃ n : Nat, k = (n : Int) := ⟨k.toNat, by omega⟩
  have hor : ∀ H, ACalls Try.prog 13 [.list (l.map Nod.av) .no, .list [] .no] H fun r h' => ∃ (out : List (List Iid)) (X : AHeap), r = .list (out.map lv) .no ∧ h' = H ++ X ∧ OrdOk l [] out := fun H => order_sm hs hv [] (by simp) H
  refine goes_eq (by simp -implicitDefEqProofs (disch := (first | omega | (simp; done) | fail)) [if_pos, if_neg, wrap_i64, tmod_pos, tdiv_pos, Int.toNat_add, hk0]; rfl) ?_
  repeat (first | ((first | refine zd ?_ | refine zx ?_ | refine zk ?_ | refine zl ?_ | refine zr ?_); refine zq ?_) | refine zs ?_ | refine zg ?_ | refine zb ?_ | refine zo ?_ | refine zt ?_ | refine zf ?_)
  refine zp (callable_of Try.func13) _ (hor _) ?_
  rintro _ _ ⟨out, XO, rfl, rfl, hO⟩
  refine ze ?_
  refine goes_done ?_
  (try simp only [vq, if_true, reduceIte, Nat.reduceEqDiff, reduceCtorEq])
  have hol := hO.len
  by_cases hkn : (out.length : Int) < (n : Int)
  · repeat (first | ((first | refine zd ?_ | refine zx ?_ | refine zk ?_ | refine zl ?_ | refine zr ?_); refine zq ?_) | refine zs ?_ | refine zh (by simp -implicitDefEqProofs (disch := (first | omega | (simp; done) | fail)) [if_pos, if_neg, wrap_i64, tmod_pos, tdiv_pos, Int.toNat_add, hkn]; rfl) ?_ | refine zb ?_ | refine zo ?_ | refine zt ?_ | refine zf ?_)
    first | refine zy (.inr rfl) ?_ | refine zy (.inl rfl) ?_
    simp
  have hnl : n ≤ out.length := by omega
  have q1 : (n : Int) ≤ (out.length : Int) := by omega
  have hfo := hO.flen
  have hfk : (out.take n).flatten.length ≤ 14 := by have := flat_take_le out n; omega
  have hfl := fun H => flatG_ok (out.take n) .no (by rw [List.length_take]; omega) (fun g hg => hO.ne g (List.mem_of_mem_take hg)) (by omega) H
  have hor2 := fun H => order_sm hs hv (out.take n).flatten (by omega) H
  have hst := fun p (hp : OrdOk l (out.take n).flatten p) => steps_plain hO hnl hp
  rw [List.map_take] at hfl
  generalize (out.take n).flatten = F at *
  have huo := lv_uni out
  repeat (first | ((first | refine zd ?_ | refine zx ?_ | refine zk ?_ | refine zl ?_ | refine zr ?_); refine zq ?_) | refine zs ?_ | refine zh (by simp -implicitDefEqProofs (disch := (first | omega | (simp; done) | fail)) [if_pos, if_neg, wrap_i64, tmod_pos, tdiv_pos, Int.toNat_add, hkn, q1, huo]; rfl) ?_ | refine zb ?_ | refine zo ?_ | refine zt ?_ | refine zf ?_)
  refine zp (callable_of Try.func22) _ (hfl _) ?_
  rintro _ _ ⟨rfl, XF, rfl⟩
  refine goes_eq (by simp -implicitDefEqProofs (disch := (first | omega | (simp; done) | fail)) [if_pos, if_neg, wrap_i64, tmod_pos, tdiv_pos, Int.toNat_add, lv]; rfl) ?_
  refine goes_done ?_
  (try simp only [vq, if_true, reduceIte, Nat.reduceEqDiff, reduceCtorEq])
  refine awp_seq ?_
  repeat (first | ((first | refine zd ?_ | refine zx ?_ | refine zk ?_ | refine zl ?_ | refine zr ?_); refine zq ?_) | refine zs ?_ | refine zg ?_ | refine zb ?_ | refine zo ?_ | refine zt ?_ | refine zf ?_)
  refine zp (callable_of Try.func13) _ (hor2 _) ?_
  rintro _ _ ⟨p, XP, rfl, rfl, hP⟩
  have hpd := hst p hP
  have hpl : p.length = out.length - n := by rw [hpd, List.length_drop]
  have hpg : ∀ i, i < p.length → p[i]? = out[n + i]? := fun i hi => by rw [hpd, List.getElem?_drop]
  have hgl : ∀ g ∈ out, g.length ≤ 14 := fun g hg => by
    have h1 : g.Nodup := flat_nd hO.nd g hg
    have := can_len h1 fun x hx => (hO.mem x).1 (List.mem_flatten.2 ⟨g, hg, hx⟩)
    omega
  clear hpd hst
  refine ze ?_
  refine goes_done ?_
  (try simp only [vq, if_true, reduceIte, Nat.reduceEqDiff, reduceCtorEq])
  have q2 : ((p.length : Int) != (out.length : Int) - (n : Int)) = false := by
    rw [hpl]; simp; omega
  repeat (first | ((first | refine zd ?_ | refine zx ?_ | refine zk ?_ | refine zl ?_ | refine zr ?_); refine zq ?_) | refine zs ?_ | refine zh (by simp -implicitDefEqProofs (disch := (first | omega | (simp; done) | fail)) [if_pos, if_neg, wrap_i64, tmod_pos, tdiv_pos, Int.toNat_add, q2]; rfl) ?_ | refine zb ?_ | refine zo ?_ | refine zt ?_ | refine zf ?_)
  generalize hXX : XW ++ (XV ++ (XO ++ (XF ++ XP))) = X0
  clear hXX
  have hup := lv_uni p
  refine awp_loop (fun z st => ∃ (i : Nat), z = p.length - i ∧ i ≤ p.length ∧ st.le ⟨Try.f5.ntmps, [(0, .list (l.map Nod.av) .no), (1, iv (n : Nat)), (5, .bool true), (6, .list (out.map lv) .no), (8, .list (p.map lv) .no), (9, iv (i : Nat))], h ++ X0⟩) p.length ?_ ?_
  rotate_left
  rintro z st ⟨i, rfl, hi, hle⟩
  · refine awp_le hle ?_
    clear hle
    by_cases h9 : i = p.length
    · subst h9
      have q : ¬ (p.length : Int) < (p.length : Int) := by omega
      repeat (first | ((first | refine zd ?_ | refine zx ?_ | refine zk ?_ | refine zl ?_ | refine zr ?_); refine zq ?_) | refine zs ?_ | refine zh (by simp -implicitDefEqProofs (disch := (first | omega | (simp; done) | fail)) [if_pos, if_neg, wrap_i64, tmod_pos, tdiv_pos, Int.toNat_add, q]; rfl) ?_ | refine zb ?_ | refine zo ?_ | refine zt ?_ | refine zf ?_)
      first | refine zy (.inr rfl) ?_ | refine zy (.inl rfl) ?_
      simp
    · have hlt : i < p.length := by omega
      have q : (i : Int) < (p.length : Int) := by omega
      have q3 : (n : Int) + (i : Int) < (out.length : Int) := by omega
      have hgi : p[i]? = some p[i] := List.getElem?_eq_getElem hlt
      have hgo := hpg i hlt
      rw [hgi] at hgo
      have hgl2 : p[i].length ≤ 14 := hgl _ (List.mem_of_getElem? hgo.symm)
      generalize p[i] = g at *
      have hx2 : (p.map lv)[i]? = some (lv g) := by simp [hgi]
      have hx3 : (out.map lv)[n + i]? = some (lv g) := by simp [← hgo]
      have hx4 : (out.map lv)[((n : Int) + (i : Int)).toNat]? = some (lv g) := by
        rw [show ((n : Int) + (i : Int)).toNat = n + i by omega]; exact hx3
      have hro := fun H => row_ok g g .no .no (by omega) H
      refine awp_seq ?_
      refine awp_seq ?_
      refine zh (by simp -implicitDefEqProofs (disch := (first | omega | (simp; done) | fail)) [if_pos, if_neg, wrap_i64, tmod_pos, tdiv_pos, Int.toNat_add, q]; rfl) ?_
      refine goes_done ?_
      (try simp only [vq, if_true, reduceIte, Nat.reduceEqDiff, reduceCtorEq])
      refine awp_cond_t rfl ?_
      refine awp_skip ?_
      simp only [vq, if_true, reduceIte, Nat.reduceEqDiff, reduceCtorEq]
      refine awp_seq ?_
      refine awp_block ?_
      refine awp_seq ?_
      refine awp_draw (.q 0 (.q 1 (.q 2 (.q 3 (.q 4 (.q 5 (.q 6 (.q 7 (.q 8 (.q 9 (.a 10 (.q 11 (.done))))))))))))) (by kernel_rfl) (by kernel_rfl) (tree_start (goesT_eq (by simp -implicitDefEqProofs (disch := (first | omega | (simp; done) | fail)) [if_pos, if_neg, wrap_i64, tmod_pos, tdiv_pos, Int.toNat_add, q, q3, hup, huo, hx2, hx3, hx4, lv]; rfl) ?_))
      refine zP (callable_of Try.func17) _ (hro _) ?_
      rintro _ _ ⟨rfl, rfl⟩
      refine zE ?_
      refine goesT_done ?_
      (try simp only [vq, if_true, reduceIte, Nat.reduceEqDiff, reduceCtorEq])
      repeat (first | ((first | refine zd ?_ | refine zx ?_ | refine zk ?_ | refine zl ?_ | refine zr ?_); refine zq ?_) | refine zs ?_ | refine zg ?_ | refine zb ?_ | refine zo ?_ | refine zt ?_ | refine zf ?_)
      exact ⟨p.length - (i + 1), by omega, i + 1, rfl, hlt, st_keep' (by simp []) (by simp [])⟩
  · exact ⟨0, rfl, by omega, st_keep' (by simp []) (by simp [])⟩
end Go.Proofs.Ytajgeofhlgoifaa.G

/- Graphs: the walk of a law: in steps. -/
set_option linter.unusedVariables false
set_option linter.unusedSimpArgs false
namespace Go.Proofs.Ytajgeofhlgoifaa.G
open Go Go.Proofs.Ytajgeofhlgoifaa.V Go.Proofs.Ytajgeofhlgoifaa.I Go.RowKit
theorem walk_GraphSteps (x0 : Came) {w : World} (f0 : NodsAt w x0.v) (a1 : Int) (w1 : (Lit.int .i64 a1).wf = true) :
    Calls Try.prog 5 #[x0.v, .int .i64 a1] w fun e w' => e = .returned (.bool true) ∧ Below w.heap.size w w' := by
  obtain ⟨a, ha⟩ := f0
  exact Law.calls (steps_law a a1 w1 []) w (vals_of (cells_cons ha (cells_cons (.int _ _) (cells_nil _))))
end Go.Proofs.Ytajgeofhlgoifaa.G
