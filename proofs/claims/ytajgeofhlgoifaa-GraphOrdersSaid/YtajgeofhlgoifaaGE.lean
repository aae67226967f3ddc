import Derived.Test.YtajgeofhlgoifaaGC
import Derived.Test.YtajgeofhlgoifaaIB
/- Graphs: all groups that a node leads to. -/
set_option linter.unusedVariables false
set_option linter.unusedSimpArgs false
set_option maxRecDepth 20000
namespace Go.Proofs.Ytajgeofhlgoifaa.G
open Go Go.Proofs.Ytajgeofhlgoifaa.V Go.Proofs.Ytajgeofhlgoifaa.I Go.Sort Go.RowKit
theorem take3_of {l : List AV} {i : Nat} {a b c : AV} (h1 : l[i]? = some a) (h2 : l[i + 1]? = some b) (h3 : l[i + 2]? = some c) : (l.drop i).take 3 = [a, b, c] := by
  apply List.ext_getElem?
  intro j
  rw [List.getElem?_take, List.getElem?_drop]
  match j with
  | 0 => simpa using h1
  | 1 => simpa using h2
  | 2 => simpa using h3
  | j + 3 => simp; omega
theorem from_ok {H0 : AHeap} {l : List Nod} {dn : List Iid} {i1 i2 i3 fo : Nat} {vis0 : List Iid} {sv gv : AV} {mid : Iid → Nat} {low : Iid → Nat} {grs : List (List Iid)} (A0 : At H0 H0 (own i3 fo sv gv mid vis0) l dn i1 i2 i3 fo vis0 sv gv mid vis0 low [] grs []) (x : Iid) (hx : x ∉ vis0) (hc : CanDo l dn x) (hl : l.length ≤ 90000) (hW : ∀ f, (dpOf l f).length ≤ 100000) :
    ACalls Try.prog 30 [.ptr fo 0, Iid.av x] H0 fun r H' => r = .tuple [] ∧ ∃ sv' gv' mid' vis' low' grs', At H0 H' (own i3 fo sv gv mid vis0) l dn i1 i2 i3 fo vis0 sv' gv' mid' vis' low' [] grs' [] ∧ x ∈ vis' := by
  have hu := Try.underlying60
  have hmeet := fun (H : AHeap) => meet_ok (A0.F.app H) x hx (by simp)
  unfold Iid.av Iid.c at hmeet ⊢
  refine acalls_of_awp Try.func30 rfl (by simp only [List.length_cons, List.length_nil]; decide) ?_
  simp only [params_cons, params_nil]
  refine awp_seq ?_
  refine zg ?_
  refine goes_done ?_
  (try simp only [vq, if_true, reduceIte, Nat.reduceEqDiff, reduceCtorEq])
  have hfn : ¬ fo = H0.length := fun e => absurd (get_lt A0.F.obj) (by omega)
  refine awp_hard (id := H0.length) (by simp -implicitDefEqProofs; rfl) ?_
  simp -implicitDefEqProofs only [Slots.melt, AV.melt, Nat.add_left_cancel_iff, Nat.add_eq_left, Nat.left_eq_add, Nat.reduceEqDiff, reduceIte, Nat.succ_ne_self, Nat.one_ne_zero, Nat.zero_ne_one, List.set_append_right, List.set_append_left, Nat.sub_self, Nat.le_refl, Nat.add_sub_cancel_left, Nat.le_add_right, List.set_cons_zero, List.set_cons_succ, hfn]
  refine awp_scope ?_
  refine awp_seq ?_
  refine awp_region_at 3 rfl rfl ?_
  refine zn ?_
  refine goes_call (callable_of Try.func52) _ (hmeet _) ?_
  rintro _ H1 ⟨rfl, sv1, mid1, F1, K1⟩
  refine ze ?_
  refine goes_done ?_
  refine aops_one_lit (k := 4) (zc := [iv 0, iv 0, iv 0, iv 0]) (cs := frC (x, 0)) rfl rfl Try.underlying89 (by rfl) (by rfl) rfl (by decide) (by decide) (by simp; rfl) ?_
  refine aops_end ?_
  refine zn ?_
  refine goes_done ?_
  simp only [vq, if_true, reduceIte, Nat.reduceEqDiff, reduceCtorEq]
  have A1 : At H0 H1 (own i3 fo sv gv mid vis0) l dn i1 i2 i3 fo vis0 sv1 gv mid1 (vis0 ++ [x]) (fun y => if y = x then vis0.length else low y) [x] grs [(x, 0)] := by
    have hd : dnB dn x = false := by simp [dnB, hc.2.1]
    refine ⟨F1, A0.I.root hd hx _ (by simp), A0.G.push hx, A0.S, (Kp.app _ _ _).trans K1, fun y hy => ?_, fun y hy => by simp [hy]⟩
    rcases List.mem_append.1 hy with h | h
    · exact A0.C y h
    · simp at h; subst h; exact hc
  have C1 : CallsAt (H1 ++ [.cells (frC (x, 0))]) H1.length 1 [(x, 0)] := ⟨frC (x, 0), by simp, rfl, by simp, by simp, by simp [frC]⟩
  have N1 : H1.length ∉ own i3 fo sv1 gv mid1 (vis0 ++ [x]) := fun h => absurd (F1.own_lt _ h) (by omega)
  have A1' := A1.app [.cells (frC (x, 0))]
  refine awp_seq ?_
  refine awp_label ?_
  refine awp_block ?_
  refine awp_loop (fun z st => ∃ (calls : List (Iid × Nat)) (H : AHeap) (sv' gv' : AV) (mid' : Iid → Nat) (vis : List Iid) (low' : Iid → Nat) (stk : List Iid) (grs' : List (List Iid)) (cb cc : Nat), z = 2 * (l.length - vis.length) + calls.length ∧ At H0 H (own i3 fo sv gv mid vis0) l dn i1 i2 i3 fo vis0 sv' gv' mid' vis low' stk grs' calls ∧ CallsAt H cb cc calls ∧ cb ∉ own i3 fo sv' gv' mid' vis ∧ H0.length ≤ cb ∧ x ∈ vis ∧ (∀ p ∈ calls, p.2 ≤ (dpOf l p.1).length) ∧ st.le ⟨Try.f30.ntmps, [(0, .ptr fo 0), (4, .arr cb 0 calls.length cc)], H⟩) (2 * (l.length - (vis0.length + 1)) + 1) ?_ ?_
  rotate_left
  rintro z st ⟨calls, H, sv', gv', mid', vis, low', stk, grs', cb, cc, rfl, A, C, hcb, hcb0, hxv, hkn, hle⟩
  · refine awp_le hle ?_
    clear hle
    rcases List.eq_nil_or_concat calls with rfl | ⟨B, ⟨v, n⟩, rfl⟩
    · have h0 := A.I.stk_nil
      subst h0
      have hK := A.K.len
      repeat (first | ((first | refine zd ?_ | refine zx ?_ | refine zk ?_ | refine zl ?_ | refine zr ?_); refine zq ?_) | refine zs ?_ | refine zg ?_ | refine zb ?_ | refine zo ?_ | refine zt ?_ | refine zf ?_)
      first | refine body_all (.inr rfl) (by simp -implicitDefEqProofs; rfl) (by simp -implicitDefEqProofs; rfl) (by first | (simp; done) | (simp; omega) | omega) ?_ | refine body_all (.inl rfl) (by simp -implicitDefEqProofs; rfl) (by simp -implicitDefEqProofs; rfl) (by first | (simp; done) | (simp; omega) | omega) ?_
      exact ⟨rfl, _, _, _, _, _, _, A, hxv⟩
    · rw [List.concat_eq_append] at *
      have hn : (B ++ [(v, n)]).length = B.length + 1 := by simp
      obtain ⟨ccs, c1, c2, c3, c4, c5, c6⟩ := C.last
      have hvs : v ∈ stk := A.I.psub v (by simp [Tar.names])
      have hvv : v ∈ vis := A.I.sub v hvs
      have hfo := A.F.obj
      obtain ⟨p, hp, hwf, hpl, hpg⟩ := A.F.mks
      have q : (0 : Int) < (B.length : Int) + 1 := by omega
      have hcl : B.length + 1 ≤ cc := by
        obtain ⟨_, _, _, h3, _⟩ := C
        omega
      have hkn0 := hkn (v, n) (by simp)
      have hbound : vis.length ≤ l.length := can_len A.I.nd A.C
      have hcz : (B ++ [(v, n)]).length ≤ l.length := by
        have h3 := List.Nodup.length_le_of_subset (l₁ := Tar.names (B ++ [(v, n)])) (A.I.psrt.imp fun {a b} h e => by subst e; omega) (l₂ := vis) fun x hx => A.I.sub x (A.I.psub x hx)
        simp only [Tar.names, List.length_map] at h3
        omega
      rw [hn]
      refine awp_seq ?_
      refine awp_seq ?_
      refine zh (by simp -implicitDefEqProofs (disch := (first | omega | (simp; done) | fail)) [if_pos, if_neg, wrap_i64, tmod_pos, tdiv_pos, Int.toNat_add, q]; rfl) ?_
      refine goes_done ?_
      (try simp only [vq, if_true, reduceIte, Nat.reduceEqDiff, reduceCtorEq])
      refine awp_cond_t rfl ?_
      refine awp_skip ?_
      simp only [vq, if_true, reduceIte, Nat.reduceEqDiff, reduceCtorEq]
      refine awp_block ?_
      refine awp_seq ?_
      refine zh (by simp -implicitDefEqProofs (disch := (first | omega | (simp; done) | fail)) [if_pos, if_neg, wrap_i64, tmod_pos, tdiv_pos, Int.toNat_add, hcl]; rfl) ?_
      refine goes_done ?_
      (try simp only [vq, if_true, reduceIte, Nat.reduceEqDiff, reduceCtorEq])
      refine awp_seq ?_
      have hH4 : HeldA H [(fo, 2, .map i3), (fo, 0, .map i1), (cb, B.length * 4, iv v.e), (cb, B.length * 4 + 1, iv v.n), (cb, B.length * 4 + 2, iv v.o)] := fun q hq => by
        simp only [List.mem_cons, List.not_mem_nil, or_false] at hq
        rcases hq with rfl | rfl | rfl | rfl | rfl
        · exact ⟨rfl, _, hfo, rfl⟩
        · exact ⟨rfl, _, hfo, rfl⟩
        · exact ⟨rfl, _, c1, c3⟩
        · exact ⟨rfl, _, c1, c4⟩
        · exact ⟨rfl, _, c1, c5⟩
      refine awp_drawH [(fo, 2, .map i3), (fo, 0, .map i1), (cb, B.length * 4, iv v.e), (cb, B.length * 4 + 1, iv v.n), (cb, B.length * 4 + 2, iv v.o)] (.q 0 (.q 1 (.q 2 (.q 3 (.q 4 (.q 5 (.q 6 (.q 7 (.a 8 (.q 9 (.done))))))))))) hH4 (by kernel_rfl) (by kernel_rfl) ?_
      refine treeH_qs (l := [0, 1, 2]) (tree_start (goesT_eq (by simp -implicitDefEqProofs (disch := (first | omega | (simp; done) | fail)) [if_pos, if_neg, wrap_i64]; rfl) ?_))
      refine goesT_done ⟨rfl, ?_⟩
      refine treeH_ld1 (.map i3) rfl rfl (by rfl) rfl (by simp) rfl ?_
      refine treeH_qs (l := [4, 5, 6]) (tree_start (goesT_eq (by simp -implicitDefEqProofs (disch := (first | omega | (simp; done) | fail)) [if_pos, if_neg, wrap_i64]; rfl) ?_))
      refine goesT_done ⟨rfl, ?_⟩
      refine treeH_ld3 (iv v.e) (iv v.n) (iv v.o) rfl rfl (by rfl) rfl (by simp) rfl ?_
      refine treeH_a (aats_look (id := i3) (es := p.1) (clock := p.2) (k := v) (z := .nilptr) iid_key rfl rfl (by rfl) hu zero_mark rfl rfl hp ⟨hH4, ?_⟩)
      rw [lookE_get, hpg, if_pos hvv, Option.getD_some]
      refine treeH_qs (l := [9]) (tree_start (goesT_eq (by simp -implicitDefEqProofs (disch := (first | omega | (simp; done) | fail)) [if_pos, if_neg, wrap_i64]; rfl) ?_))
      refine goesT_done ⟨rfl, ?_⟩
      refine treeH_done ?_
      simp only [vq, if_true, reduceIte, Nat.reduceEqDiff, reduceCtorEq]
      refine awp_seq ?_
      refine awp_seq ?_
      refine awp_drawH [(fo, 2, .map i3), (fo, 0, .map i1), (cb, B.length * 4, iv v.e), (cb, B.length * 4 + 1, iv v.n), (cb, B.length * 4 + 2, iv v.o)] (.q 0 (.q 1 (.q 2 (.q 3 (.q 4 (.q 5 (.q 6 (.q 7 (.q 8 (.a 9 (.q 10 (.q 11 (.done))))))))))))) hH4 (by kernel_rfl) (by kernel_rfl) ?_
      refine treeH_qs (l := [0, 1, 2, 3]) (tree_start (goesT_eq (by simp -implicitDefEqProofs (disch := (first | omega | (simp; done) | fail)) [if_pos, if_neg, wrap_i64]; rfl) ?_))
      refine goesT_done ⟨rfl, ?_⟩
      refine treeH_ld1 (.map i1) rfl rfl (by rfl) rfl (by simp) rfl ?_
      refine treeH_qs (l := [5, 6, 7]) (tree_start (goesT_eq (by simp -implicitDefEqProofs (disch := (first | omega | (simp; done) | fail)) [if_pos, if_neg, wrap_i64]; rfl) ?_))
      refine goesT_done ⟨rfl, ?_⟩
      refine treeH_ld3 (iv v.e) (iv v.n) (iv v.o) rfl rfl (by rfl) rfl (by simp) rfl ?_
      refine treeH_a (aats_look (id := i1) (es := (nodP l).1) (clock := (nodP l).2) (k := v) (z := zAt) iid_key rfl rfl (by rfl) Try.underlying53 zero_attr rfl rfl A.F.nodes ⟨hH4, ?_⟩)
      obtain ⟨td, htd⟩ := look_nod l v
      rw [htd]
      refine treeH_qs (l := [10, 11]) (tree_start (goesT_eq (by simp -implicitDefEqProofs (disch := (first | omega | (simp; done) | fail)) [if_pos, if_neg, wrap_i64]; rfl) ?_))
      refine goesT_done ⟨rfl, ?_⟩
      refine treeH_done ?_
      simp only [vq, if_true, reduceIte, Nat.reduceEqDiff, reduceCtorEq]
      refine awp_block ?_
      have hkB : ∀ q ∈ B, q.2 ≤ (dpOf l q.1).length := fun q hq => hkn q (by simp [hq])
      clear hfo c1 c2 c3 c4 c5 c6 hH4 hkn hp hwf hpl hpg
      refine awp_loop (fun z st => ∃ (k : Nat) (HH : AHeap) (low2 : Iid → Nat), z = (dpOf l v).length - k ∧ k ≤ (dpOf l v).length ∧ At H0 HH (own i3 fo sv gv mid vis0) l dn i1 i2 i3 fo vis0 sv' gv' mid' vis low2 stk grs' (B ++ [(v, k)]) ∧ CallsAt HH cb cc (B ++ [(v, k)]) ∧ st.le ⟨Try.f30.ntmps, [(0, .ptr fo 0), (4, .arr cb 0 (B.length + 1) cc), (5, .ptr cb (B.length * 4)), (6, .ptr (mid' v) 0), (7, .list ((dpOf l v).map Iid.av) td)], HH⟩) ((dpOf l v).length - n) ?_ ?_
      rotate_left
      rintro z st ⟨k, HH, low2, rfl, hkl, A2, C2, hle⟩
      · refine awp_le hle ?_
        clear hle
        obtain ⟨ccs, c1, c2, c3, c4, c5, c6⟩ := C2.last
        have c7 : B.length * 4 + 3 < ccs.length := c2
        have c8 : ccs[B.length * 4 + 3] = iv (k : Nat) := by
          rw [List.getElem?_eq_getElem c7] at c6
          injection c6
        by_cases h9 : k = (dpOf l v).length
        · have qk : ¬ (k : Int) < ((dpOf l v).length : Int) := by omega
          refine awp_seq ?_
          refine awp_seq ?_
          refine zh (by simp -implicitDefEqProofs (disch := (first | omega | (simp; done) | fail)) [if_pos, if_neg, wrap_i64, tmod_pos, tdiv_pos, Int.toNat_add, c1, c8, qk]; rfl) ?_
          refine goes_done ?_
          (try simp only [vq, if_true, reduceIte, Nat.reduceEqDiff, reduceCtorEq])
          refine awp_cond_f rfl ?_
          refine awp_exit ?_
          simp only [vq, if_true, reduceIte, Nat.reduceEqDiff, reduceCtorEq]
          have hmv := A2.F.mrk v hvv
          refine awp_seq ?_
          refine AWP.mono (Q := fun e st => e = .normal ∧ ∃ (H6 : AHeap) (sv6 gv6 : AV) (stk6 : List Iid) (grs6 : List (List Iid)), Pop H0 H6 (own i3 fo sv gv mid vis0) l dn i1 i2 i3 fo vis0 sv6 gv6 mid' vis low2 stk6 grs6 B v ∧ CallsAt H6 cb cc B ∧ cb ∉ own i3 fo sv6 gv6 mid' vis ∧ st.le ⟨Try.f30.ntmps, [(0, .ptr fo 0), (4, .arr cb 0 (B.length + 1) cc), (6, .ptr (mid' v) 0)], H6⟩) ?_ ?_
          · refine awp_seq ?_
            have hH5 : HeldA HH [(mid' v, 1, iv (low2 v : Nat)), (mid' v, 0, iv (vis.idxOf v : Nat))] := fun q hq => by
              simp only [List.mem_cons, List.not_mem_nil, or_false] at hq
              rcases hq with rfl | rfl
              · exact ⟨rfl, _, hmv, rfl⟩
              · exact ⟨rfl, _, hmv, rfl⟩
            refine awp_drawH [(mid' v, 1, iv (low2 v : Nat)), (mid' v, 0, iv (vis.idxOf v : Nat))] (.q 0 (.q 1 (.q 2 (.q 3 (.q 4 (.q 5 (.q 6 (.q 7 (.q 8 (.done)))))))))) hH5 (by kernel_rfl) (by kernel_rfl) ?_
            refine treeH_qs (l := [0, 1, 2]) (tree_start (goesT_eq (by simp -implicitDefEqProofs (disch := (first | omega | (simp; done) | fail)) [if_pos, if_neg, wrap_i64]; rfl) ?_))
            refine goesT_done ⟨rfl, ?_⟩
            refine treeH_ld1 (iv (low2 v : Nat)) rfl rfl (by rfl) rfl (by simp) rfl ?_
            refine treeH_qs (l := [4, 5, 6]) (tree_start (goesT_eq (by simp -implicitDefEqProofs (disch := (first | omega | (simp; done) | fail)) [if_pos, if_neg, wrap_i64]; rfl) ?_))
            refine goesT_done ⟨rfl, ?_⟩
            refine treeH_ld1 (iv (vis.idxOf v : Nat)) rfl rfl (by rfl) rfl (by simp) rfl ?_
            by_cases hlv : low2 v = vis.idxOf v
            · have e8 : ((low2 v : Int) == (vis.idxOf v : Int)) = true := by simp [hlv]
              refine treeH_qs (l := [8]) (tree_start (goesT_eq (by simp -implicitDefEqProofs (disch := (first | omega | (simp; done) | fail)) [if_pos, if_neg, wrap_i64, e8]; rfl) ?_))
              refine goesT_done ⟨rfl, ?_⟩
              refine treeH_done ?_
              simp only [vq, if_true, reduceIte, Nat.reduceEqDiff, reduceCtorEq]
              have hst := stk_len A2
              have hgl := grs_len A2
              obtain ⟨S1, S2, hS⟩ := List.append_of_mem hvs
              subst hS
              have hclose := close_ok A2.F hst.2 (fun y hy => A2.I.sub y hy) (by omega) (by omega)
              unfold Iid.av Iid.c at hclose
              have p1 := take3_of c3 c4 c5
              have p2 : B.length * 4 + 3 ≤ ccs.length := by omega
              refine awp_cond_t rfl ?_
              repeat (first | ((first | refine zd ?_ | refine zx ?_ | refine zk ?_ | refine zl ?_ | refine zr ?_); refine zq ?_) | refine zs ?_ | refine zh (by simp -implicitDefEqProofs (disch := (first | omega | (simp; done) | fail)) [if_pos, if_neg, wrap_i64, tmod_pos, tdiv_pos, Int.toNat_add, c1, p1, p2]; rfl) ?_ | refine zb ?_ | refine zo ?_ | refine zt ?_ | refine zf ?_)
              refine goes_callS (callable_of Try.func53) (by simp -implicitDefEqProofs (disch := (first | omega | (simp; done) | fail)) [if_pos, if_neg, wrap_i64, tmod_pos, tdiv_pos, Int.toNat_add] <;> first | rfl | omega) _ hclose ?_
              rintro _ H6 ⟨rfl, sv6, gv6, F6, K6⟩
              refine ze ?_
              refine goes_done ?_
              refine ⟨rfl, H6, sv6, gv6, S1, _, A2.closed rfl rfl h9 hlv F6 K6, C2.pop.keep (K6.same cb C2.lt hcb), fun h => hcb (K6.sub cb h C2.lt), st_keep' (by simp []) (by simp [])⟩
            · have e8 : ((low2 v : Int) == (vis.idxOf v : Int)) = false := by simp; omega
              refine treeH_qs (l := [8]) (tree_start (goesT_eq (by simp -implicitDefEqProofs (disch := (first | omega | (simp; done) | fail)) [if_pos, if_neg, wrap_i64, e8]; rfl) ?_))
              refine goesT_done ⟨rfl, ?_⟩
              refine treeH_done ?_
              simp only [vq, if_true, reduceIte, Nat.reduceEqDiff, reduceCtorEq]
              refine awp_cond_f rfl ?_
              refine awp_skip ?_
              refine ⟨rfl, HH, sv', gv', stk, grs', A2.pop rfl h9 hlv, C2.pop, hcb, st_keep' (by simp []) (by simp [])⟩
          · rintro e st2 ⟨rfl, H6, sv6, gv6, stk6, grs6, P6, C6, hcb6, hle⟩
            simp only [vq, if_true, reduceIte, Nat.reduceEqDiff, reduceCtorEq]
            refine awp_le hle ?_
            clear hle
            have hmv6 := P6.F.mrk v hvv
            rcases List.eq_nil_or_concat B with rfl | ⟨B', ⟨u, m⟩, rfl⟩
            · repeat (first | ((first | refine zd ?_ | refine zx ?_ | refine zk ?_ | refine zl ?_ | refine zr ?_); refine zq ?_) | refine zs ?_ | refine zh (by simp -implicitDefEqProofs (disch := (first | omega | (simp; done) | fail)) [if_pos, if_neg, wrap_i64, tmod_pos, tdiv_pos, Int.toNat_add, hcl]; rfl) ?_ | refine zb ?_ | refine zo ?_ | refine zt ?_ | refine zf ?_)
              exact ⟨2 * (l.length - vis.length), by simp, [], H6, sv6, gv6, mid', vis, low2, stk6, grs6, cb, cc, by simp, ⟨P6.F, P6.I0 rfl, P6.G, P6.S, P6.K, P6.C, P6.V⟩, C6, hcb6, hcb0, hxv, by simp, st_keep' (by simp []) (by simp [])⟩
            · rw [List.concat_eq_append] at *
              have hn6 : (B' ++ [(u, m)]).length = B'.length + 1 := by simp
              rw [hn6]
              obtain ⟨cc6, x1, x2, x3, x4, x5, x6⟩ := C6.last
              have huv : u ∈ vis := P6.sub u (by simp [Tar.names])
              obtain ⟨p6, hp6, _, _, hpg6⟩ := P6.F.mks
              have hcl6 : B'.length + 1 ≤ cc := by have := C6.lt_len; rw [hn6] at this; exact this
              have q6 : (0 : Int) < (B'.length : Int) + 1 := by omega
              rw [hn6] at hcl
              have hmu6 := P6.F.mrk u huv
              repeat (first | ((first | refine zd ?_ | refine zx ?_ | refine zk ?_ | refine zl ?_ | refine zr ?_); refine zq ?_) | refine zs ?_ | refine zh (by simp -implicitDefEqProofs (disch := (first | omega | (simp; done) | fail)) [if_pos, if_neg, wrap_i64, tmod_pos, tdiv_pos, Int.toNat_add, hcl, hcl6, q6]; rfl) ?_ | refine zb ?_ | refine zo ?_ | refine zt ?_ | refine zf ?_)
              have hH7 : HeldA H6 [(fo, 2, .map i3), (cb, B'.length * 4, iv u.e), (cb, B'.length * 4 + 1, iv u.n), (cb, B'.length * 4 + 2, iv u.o)] := fun q hq => by
                simp only [List.mem_cons, List.not_mem_nil, or_false] at hq
                rcases hq with rfl | rfl | rfl | rfl
                · exact ⟨rfl, _, P6.F.obj, rfl⟩
                · exact ⟨rfl, _, x1, x3⟩
                · exact ⟨rfl, _, x1, x4⟩
                · exact ⟨rfl, _, x1, x5⟩
              refine awp_drawH [(fo, 2, .map i3), (cb, B'.length * 4, iv u.e), (cb, B'.length * 4 + 1, iv u.n), (cb, B'.length * 4 + 2, iv u.o)] (.q 0 (.q 1 (.q 2 (.q 3 (.q 4 (.q 5 (.q 6 (.q 7 (.q 8 (.q 9 (.q 10 (.a 11 (.q 12 (.done)))))))))))))) hH7 (by kernel_rfl) (by kernel_rfl) ?_
              refine treeH_qs (l := [0, 1, 2]) (tree_start (goesT_eq (by simp -implicitDefEqProofs (disch := (first | omega | (simp; done) | fail)) [if_pos, if_neg, wrap_i64]; rfl) ?_))
              refine goesT_done ⟨rfl, ?_⟩
              refine treeH_ld1 (.map i3) rfl rfl (by rfl) rfl (by simp) rfl ?_
              refine treeH_qs (l := [4, 5, 6, 7, 8, 9]) (tree_start (goesT_eq (by simp -implicitDefEqProofs (disch := (first | omega | (simp; done) | fail)) [if_pos, if_neg, wrap_i64, hcl6, q6]; rfl) ?_))
              refine goesT_done ⟨rfl, ?_⟩
              refine treeH_ld3 (iv u.e) (iv u.n) (iv u.o) rfl rfl (by rfl) rfl (by simp) rfl ?_
              refine treeH_a (aats_look (id := i3) (es := p6.1) (clock := p6.2) (k := u) (z := .nilptr) iid_key rfl rfl (by rfl) hu zero_mark rfl rfl hp6 ⟨hH7, ?_⟩)
              rw [lookE_get, hpg6, if_pos huv, Option.getD_some]
              refine treeH_qs (l := [12]) (tree_start (goesT_eq (by simp -implicitDefEqProofs (disch := (first | omega | (simp; done) | fail)) [if_pos, if_neg, wrap_i64]; rfl) ?_))
              refine goesT_done ⟨rfl, ?_⟩
              refine treeH_done ?_
              simp only [vq, if_true, reduceIte, Nat.reduceEqDiff, reduceCtorEq]
              refine awp_draw (.q 0 (.q 1 (.q 2 (.q 3 (.q 5 (.q 6 (.q 7 (.two 4 8 (.a 8 (.q 9 (.q 10 (.q 11 (.a 12 (.done)))))) (.a 4 (.q 9 (.q 10 (.q 11 (.a 12 (.done)))))))))))))) (by kernel_rfl) (by kernel_rfl) (tree_start (goesT_eq (by simp -implicitDefEqProofs (disch := (first | omega | (simp; done) | fail)) [if_pos, if_neg, wrap_i64, tmod_pos, tdiv_pos, Int.toNat_add, hmu6, hmv6]; rfl) ?_))
              refine goesT_two (goesT_eq (by simp -implicitDefEqProofs (disch := (first | omega | (simp; done) | fail)) [if_pos, if_neg, wrap_i64, tmod_pos, tdiv_pos, Int.toNat_add, hmu6, hmv6]; rfl) ?_) (goesT_eq (by simp -implicitDefEqProofs (disch := (first | omega | (simp; done) | fail)) [if_pos, if_neg, wrap_i64, tmod_pos, tdiv_pos, Int.toNat_add, hmu6, hmv6]; rfl) ?_)
              · refine goesT_done ?_
                (try simp only [vq, if_true, reduceIte, Nat.reduceEqDiff, reduceCtorEq])
                exact ⟨2 * (l.length - vis.length) + (B'.length + 1), by omega, B' ++ [(u, m)], H6.set (mid' u) (.cells [iv (vis.idxOf u : Nat), .int .i64 (if low2 v < low2 u then (low2 v : Int) else (low2 u : Int)), .bool (decide (u ∈ stk6))]), sv6, gv6, mid', vis, fun z => if z = u then (if low2 v < low2 u then low2 v else low2 u) else low2 z, stk6, grs6, cb, cc, by simp, P6.mark rfl (by simp only [if_true]; split <;> omega) (fun z hz => if_neg hz) (by simp only [if_true]; split <;> rfl),
                  C6.mark (fun e => hcb6 (e ▸ own_mid huv)) _, hcb6, hcb0, hxv, hkB, st_keep' (by simp []) (by simp [])⟩
              · refine goesT_done ?_
                (try simp only [vq, if_true, reduceIte, Nat.reduceEqDiff, reduceCtorEq])
                exact ⟨2 * (l.length - vis.length) + (B'.length + 1), by omega, B' ++ [(u, m)], H6.set (mid' u) (.cells [iv (vis.idxOf u : Nat), .int .i64 (if low2 v < low2 u then (low2 v : Int) else (low2 u : Int)), .bool (decide (u ∈ stk6))]), sv6, gv6, mid', vis, fun z => if z = u then (if low2 v < low2 u then low2 v else low2 u) else low2 z, stk6, grs6, cb, cc, by simp, P6.mark rfl (by simp only [if_true]; split <;> omega) (fun z hz => if_neg hz) (by simp only [if_true]; split <;> rfl),
                  C6.mark (fun e => hcb6 (e ▸ own_mid huv)) _, hcb6, hcb0, hxv, hkB, st_keep' (by simp []) (by simp [])⟩
        · have hlt : k < (dpOf l v).length := by omega
          have qk : (k : Int) < ((dpOf l v).length : Int) := by omega
          have hx2 : ((dpOf l v).map Iid.av)[k]? = some (Iid.av (dpOf l v)[k]) := by simp [hlt]
          have hyd : (dpOf l v)[k]? = some (dpOf l v)[k] := by simp [hlt]
          have huv : uni 3 ((dpOf l v).map Iid.av) = true := uni_map fun _ => rfl
          generalize (dpOf l v)[k] = y at *
          refine awp_seq ?_
          refine awp_seq ?_
          refine zh (by simp -implicitDefEqProofs (disch := (first | omega | (simp; done) | fail)) [if_pos, if_neg, wrap_i64, tmod_pos, tdiv_pos, Int.toNat_add, c1, c8, qk]; rfl) ?_
          refine goes_done ?_
          (try simp only [vq, if_true, reduceIte, Nat.reduceEqDiff, reduceCtorEq])
          refine awp_cond_t rfl ?_
          refine awp_skip ?_
          simp only [vq, if_true, reduceIte, Nat.reduceEqDiff, reduceCtorEq]
          refine awp_block ?_
          refine awp_seq ?_
          refine zh (by simp -implicitDefEqProofs (disch := (first | omega | (simp; done) | fail)) [if_pos, if_neg, wrap_i64, tmod_pos, tdiv_pos, Int.toNat_add, c1, c8, qk, hx2, huv, Iid.av, Iid.c]; rfl) ?_
          refine goes_done ?_
          (try simp only [vq, if_true, reduceIte, Nat.reduceEqDiff, reduceCtorEq])
          have hn1 : ¬ cb = HH.length := fun e => absurd C2.lt (by omega)
          have hn2 : ¬ fo = HH.length := fun e => absurd (get_lt A2.F.obj) (by omega)
          have hn3 : ¬ mid' v = HH.length := fun e => absurd (get_lt (A2.F.mrk v hvv)) (by omega)
          refine awp_hard (id := HH.length) (by simp -implicitDefEqProofs; rfl) ?_
          simp -implicitDefEqProofs only [Slots.melt, AV.melt, Nat.add_left_cancel_iff, Nat.add_eq_left, Nat.left_eq_add, Nat.reduceEqDiff, reduceIte, Nat.succ_ne_self, Nat.one_ne_zero, Nat.zero_ne_one, List.set_append_right, List.set_append_left, Nat.sub_self, Nat.le_refl, Nat.add_sub_cancel_left, Nat.le_add_right, List.set_cons_zero, List.set_cons_succ, hn1, hn2, hn3]
          have A3 := A2.app [.dead]
          have C3 := C2.app [.dead]
          have d1 : (HH ++ [.dead])[cb]? = some (.cells ccs) := by rw [List.getElem?_append_left C2.lt]; exact c1
          have hHl : HH.length ≤ (HH ++ [AObj.dead]).length := by simp
          generalize HH ++ [AObj.dead] = HH1 at *
          have hWv := hW v
          refine awp_seq ?_
          refine zh (by simp -implicitDefEqProofs (disch := (first | omega | (simp; done) | fail)) [if_pos, if_neg, wrap_i64, tmod_pos, tdiv_pos, Int.toNat_add, d1, c8, c7]; rfl) ?_
          refine goes_done ?_
          (try simp only [vq, if_true, reduceIte, Nat.reduceEqDiff, reduceCtorEq])
          have hse : ccs.take (B.length * 4 + 3) ++ iv ((k : Int) + 1) :: ccs.drop (B.length * 4 + 3 + 1) = ccs.set (B.length * 4 + 3) (iv ((k + 1 : Nat) : Int)) := by rw [List.set_eq_take_append_cons_drop, if_pos c7]; simp
          rw [hse]
          have A4 := A3.cset C3 hcb0 hcb (.cells (ccs.set (B.length * 4 + 3) (iv ((k + 1 : Nat) : Int))))
          have C4 := C3.next (m := k + 1) d1 (H' := HH1.set cb (.cells (ccs.set (B.length * 4 + 3) (iv ((k + 1 : Nat) : Int))))) (List.getElem?_set_self C3.lt)
          generalize HH1.set cb (.cells (ccs.set (B.length * 4 + 3) (iv ((k + 1 : Nat) : Int)))) = H2 at *
          have hfo := A4.F.obj
          obtain ⟨p, hp, hwf, hpl, hpg⟩ := A4.F.mks
          have hH9 : HeldA H2 [(fo, 2, .map i3), (fo, 1, .map i2)] := fun q hq => by
            simp only [List.mem_cons, List.not_mem_nil, or_false] at hq
            rcases hq with rfl | rfl
            · exact ⟨rfl, _, hfo, rfl⟩
            · exact ⟨rfl, _, hfo, rfl⟩
          refine awp_seq ?_
          refine awp_drawH [(fo, 2, .map i3), (fo, 1, .map i2)] (.q 0 (.q 1 (.q 2 (.q 3 (.q 4 (.a 5 (.q 6 (.done)))))))) hH9 (by kernel_rfl) (by kernel_rfl) ?_
          refine treeH_qs (l := [0, 1, 2]) (tree_start (goesT_eq (by simp -implicitDefEqProofs (disch := (first | omega | (simp; done) | fail)) [if_pos, if_neg, wrap_i64]; rfl) ?_))
          refine goesT_done ⟨rfl, ?_⟩
          refine treeH_ld1 (.map i3) rfl rfl (by rfl) rfl (by simp) rfl ?_
          refine treeH_qs (l := [4]) (tree_start (goesT_eq (by simp -implicitDefEqProofs (disch := (first | omega | (simp; done) | fail)) [if_pos, if_neg, wrap_i64]; rfl) ?_))
          refine goesT_done ⟨rfl, ?_⟩
          refine treeH_a (aats_look (id := i3) (es := p.1) (clock := p.2) (k := y) (z := .nilptr) iid_key rfl rfl (by rfl) hu zero_mark rfl rfl hp ⟨hH9, ?_⟩)
          rw [lookE_get, hpg]
          refine treeH_qs (l := [6]) (tree_start (goesT_eq (by simp -implicitDefEqProofs (disch := (first | omega | (simp; done) | fail)) [if_pos, if_neg, wrap_i64]; rfl) ?_))
          refine goesT_done ⟨rfl, ?_⟩
          refine treeH_done ?_
          simp only [vq, if_true, reduceIte, Nat.reduceEqDiff, reduceCtorEq]
          refine awp_block ?_
          refine awp_seq ?_
          refine awp_drawH [(fo, 2, .map i3), (fo, 1, .map i2)] (.q 0 (.q 1 (.q 2 (.q 3 (.q 4 (.q 5 (.a 6 (.q 7 (.done))))))))) hH9 (by kernel_rfl) (by kernel_rfl) ?_
          refine treeH_qs (l := [0, 1, 2, 3]) (tree_start (goesT_eq (by simp -implicitDefEqProofs (disch := (first | omega | (simp; done) | fail)) [if_pos, if_neg, wrap_i64]; rfl) ?_))
          refine goesT_done ⟨rfl, ?_⟩
          refine treeH_ld1 (.map i2) rfl rfl (by rfl) rfl (by simp) rfl ?_
          refine treeH_qs (l := [5]) (tree_start (goesT_eq (by simp -implicitDefEqProofs (disch := (first | omega | (simp; done) | fail)) [if_pos, if_neg, wrap_i64]; rfl) ?_))
          refine goesT_done ⟨rfl, ?_⟩
          refine treeH_a (aats_look (id := i2) (es := (ms dn).1) (clock := (ms dn).2) (k := y) (z := .bool false) iid_key rfl rfl (by rfl) Try.underlying54 zero_bool rfl rfl A4.F.done ⟨hH9, ?_⟩)
          rw [done_get]
          refine treeH_qs (l := [7]) (tree_start (goesT_eq (by simp -implicitDefEqProofs (disch := (first | omega | (simp; done) | fail)) [if_pos, if_neg, wrap_i64]; rfl) ?_))
          refine goesT_done ⟨rfl, ?_⟩
          refine treeH_done ?_
          simp only [vq, if_true, reduceIte, Nat.reduceEqDiff, reduceCtorEq]
          by_cases hyn : y ∈ dn
          · simp only [hyn, decide_true]
            refine awp_cond_t rfl ?_
            refine awp_skip ?_
            simp only [vq, if_true, reduceIte, Nat.reduceEqDiff, reduceCtorEq]
            refine ⟨(dpOf l v).length - (k + 1), by omega, k + 1, H2, low2, rfl, hlt, A4.look rfl hyd (fun h => absurd hyn (by simpa [dnB] using h)) (fun h => absurd hyn (by simpa [dnB] using h.1)), C4, st_keep' (by simp []) (by simp [])⟩
          · simp only [hyn, decide_false]
            refine awp_cond_f rfl ?_
            have hdy : dnB dn y = false := by simp [dnB, hyn]
            by_cases hyv : y ∈ vis
            · rw [if_pos hyv]
              have hmy := A4.F.mrk y hyv
              have hmv := A4.F.mrk v hvv
              rw [Option.getD_some]
              refine awp_seq ?_
              refine zg ?_
              refine goes_done ?_
              (try simp only [vq, if_true, reduceIte, Nat.reduceEqDiff, reduceCtorEq])
              refine awp_cond_f rfl ?_
              refine awp_seq ?_
              refine zh (by simp -implicitDefEqProofs (disch := (first | omega | (simp; done) | fail)) [if_pos, if_neg, wrap_i64, tmod_pos, tdiv_pos, Int.toNat_add, hmy]; rfl) ?_
              refine goes_done ?_
              (try simp only [vq, if_true, reduceIte, Nat.reduceEqDiff, reduceCtorEq])
              by_cases hys : y ∈ stk
              · simp only [hys, decide_true]
                simp only [hys, decide_true] at hmy
                refine awp_cond_t rfl ?_
                refine awp_draw (.q 0 (.q 1 (.q 2 (.q 3 (.q 5 (.q 6 (.q 7 (.two 4 8 (.a 8 (.q 9 (.q 10 (.q 11 (.a 12 (.done)))))) (.a 4 (.q 9 (.q 10 (.q 11 (.a 12 (.done)))))))))))))) (by kernel_rfl) (by kernel_rfl) (tree_start (goesT_eq (by simp -implicitDefEqProofs (disch := (first | omega | (simp; done) | fail)) [if_pos, if_neg, wrap_i64, tmod_pos, tdiv_pos, Int.toNat_add, hmy, hmv]; rfl) ?_))
                refine goesT_two (goesT_eq (by simp -implicitDefEqProofs (disch := (first | omega | (simp; done) | fail)) [if_pos, if_neg, wrap_i64, tmod_pos, tdiv_pos, Int.toNat_add, hmy, hmv]; rfl) ?_) (goesT_eq (by simp -implicitDefEqProofs (disch := (first | omega | (simp; done) | fail)) [if_pos, if_neg, wrap_i64, tmod_pos, tdiv_pos, Int.toNat_add, hmy, hmv]; rfl) ?_)
                · refine goesT_done ?_
                  (try simp only [vq, if_true, reduceIte, Nat.reduceEqDiff, reduceCtorEq])
                  refine ⟨(dpOf l v).length - (k + 1), by omega, k + 1, H2.set (mid' v) (.cells [iv (vis.idxOf v : Nat), .int .i64 (if vis.idxOf y < low2 v then (vis.idxOf y : Int) else (low2 v : Int)), .bool (decide (v ∈ stk))]), fun z => if z = v then (if vis.idxOf y < low2 v then vis.idxOf y else low2 v) else low2 z, rfl, hlt,
                    A4.mark hvv (fun z hz => if_neg hz) (A4.I.look hyd (fun _ => hyv) _ (by simp only [if_true, hdy, hys, and_self]; split <;> omega) (fun z hz => if_neg hz)) (by simp only [if_true]; split <;> rfl), C4.mark (fun e => hcb (e ▸ own_mid hvv)) _, st_keep' (by simp []) (by simp [])⟩
                · refine goesT_done ?_
                  (try simp only [vq, if_true, reduceIte, Nat.reduceEqDiff, reduceCtorEq])
                  refine ⟨(dpOf l v).length - (k + 1), by omega, k + 1, H2.set (mid' v) (.cells [iv (vis.idxOf v : Nat), .int .i64 (if vis.idxOf y < low2 v then (vis.idxOf y : Int) else (low2 v : Int)), .bool (decide (v ∈ stk))]), fun z => if z = v then (if vis.idxOf y < low2 v then vis.idxOf y else low2 v) else low2 z, rfl, hlt,
                    A4.mark hvv (fun z hz => if_neg hz) (A4.I.look hyd (fun _ => hyv) _ (by simp only [if_true, hdy, hys, and_self]; split <;> omega) (fun z hz => if_neg hz)) (by simp only [if_true]; split <;> rfl), C4.mark (fun e => hcb (e ▸ own_mid hvv)) _, st_keep' (by simp []) (by simp [])⟩
              · simp only [hys, decide_false]
                refine awp_cond_f rfl ?_
                refine awp_skip ?_
                simp only [vq, if_true, reduceIte, Nat.reduceEqDiff, reduceCtorEq]
                refine ⟨(dpOf l v).length - (k + 1), by omega, k + 1, H2, low2, rfl, hlt, A4.look rfl hyd (fun _ => hyv) (fun h => hys h.2), C4, st_keep' (by simp []) (by simp [])⟩
            · rw [if_neg hyv]
              refine awp_seq ?_
              refine zg ?_
              refine goes_done ?_
              (try simp only [vq, if_true, reduceIte, Nat.reduceEqDiff, reduceCtorEq])
              have hcan : CanDo l dn y := can_succ (A4.C v hvv) ⟨List.mem_of_getElem? hyd, hdy⟩
              have hst := (stk_len A4).1
              have hmeet2 := meet_ok A4.F y hyv (by omega)
              unfold Iid.av Iid.c at hmeet2
              refine awp_cond_t rfl ?_
              refine awp_seq ?_
              refine awp_region_at 5 rfl rfl ?_
              refine zn ?_
              refine goes_call (callable_of Try.func52) _ hmeet2 ?_
              rintro _ H5 ⟨rfl, sv5, mid5, F5, K5⟩
              refine ze ?_
              refine goes_done ?_
              have A5 : At H0 H5 (own i3 fo sv gv mid vis0) l dn i1 i2 i3 fo vis0 sv5 gv' mid5 (vis ++ [y]) (fun z => if z = y then vis.length else low2 z) (stk ++ [y]) grs' (B ++ [(v, k + 1)] ++ [(y, 0)]) := by
                refine ⟨F5, A4.I.push hyd hdy hyv _ (by simp) (fun z hz => by simp [hz]), A4.G.push hyv, A4.S, A4.K.trans K5, fun z hz => ?_, fun z hz => by simp [A4.V z hz]⟩
                rcases List.mem_append.1 hz with h | h
                · exact A4.C z h
                · simp at h; subst h; exact hcan
              have hcb5 : cb ∉ own i3 fo sv5 gv' mid5 (vis ++ [y]) := fun h => hcb (K5.sub cb h C4.lt)
              have C5 : CallsAt H5 cb cc (B ++ [(v, k + 1)]) := C4.keep (K5.same cb C4.lt hcb)
              have hv5 := can_len A5.I.nd A5.C
              rw [List.length_append, List.length_singleton] at hv5
              have hb5 : ∀ q ∈ B ++ [(v, k + 1)] ++ [(y, 0)], q.2 ≤ (dpOf l q.1).length := fun q hq => by
                simp only [List.mem_append, List.mem_singleton, or_assoc] at hq
                rcases hq with h | rfl | rfl
                · exact hkB q h
                · exact hlt
                · exact Nat.zero_le _
              have C5' := C5
              obtain ⟨ccs5, r1, r2, r3, r4, r5⟩ := C5
              simp only [List.length_append, List.length_singleton] at r3 r5
              have b4 : (B.length + 1 + 1) * 32 ≤ 140737488355328 ∧ B.length + 1 + 1 ≤ 140737488355328 := by simp only [List.length_append, List.length_singleton] at hcz; omega
              refine aops_append_k (k := 4) (by_ := 32) (m := B.length + 1) (c := cc) (cs := ccs5) (zc := [iv 0, iv 0, iv 0, iv 0]) (z := .agg (frC (y, 0))) rfl rfl (by simp; rfl) (by simp) (by simp) (by simp [iv]) rfl (by decide) rfl (by simp [frC]) (.arr _ _ _ _ r1 r2 r3 r4) (by simp [frC, iv]) b4.1 b4.2 ?_
              refine ⟨fun hroom id' hid => ?_, fun hfull c' u hc' hu => ?_⟩
              · injection hid with hid
                subst hid
                refine aops_end ?_
                refine zn ?_
                refine goes_done ?_
                (try simp only [vq, if_true, reduceIte, Nat.reduceEqDiff, reduceCtorEq])
                repeat (first | ((first | refine zd ?_ | refine zx ?_ | refine zk ?_ | refine zl ?_ | refine zr ?_); refine zq ?_) | refine zs ?_ | refine zg ?_ | refine zb ?_ | refine zo ?_ | refine zt ?_ | refine zf ?_)
                refine ⟨2 * (l.length - (vis.length + 1)) + (B.length + 1 + 1), by omega, B ++ [(v, k + 1)] ++ [(y, 0)], H5.set cb (.cells (V.over ccs5 ((B.length + 1) * 4) (frC (y, 0)))), sv5, gv', mid5, vis ++ [y], _, stk ++ [y], grs', cb, cc, by simp, A5.cset C5' hcb0 hcb5 _, CallsAt.room (H := H5) r2 (by simpa using r5) (by simpa using hroom) (by simpa using List.getElem?_set_self (get_lt r1)), hcb5, hcb0, by simp [hxv], hb5, ?_⟩
                exact st_keep' (by simp [frC]) (by simp [frC])
              · refine aops_end ?_
                refine zn ?_
                refine goes_done ?_
                (try simp only [vq, if_true, reduceIte, Nat.reduceEqDiff, reduceCtorEq])
                repeat (first | ((first | refine zd ?_ | refine zx ?_ | refine zk ?_ | refine zl ?_ | refine zr ?_); refine zq ?_) | refine zs ?_ | refine zg ?_ | refine zb ?_ | refine zo ?_ | refine zt ?_ | refine zf ?_)
                refine ⟨2 * (l.length - (vis.length + 1)) + (B.length + 1 + 1), by omega, B ++ [(v, k + 1)] ++ [(y, 0)], H5 ++ [.cells (ccs5 ++ frC (y, 0) ++ u)], sv5, gv', mid5, vis ++ [y], _, stk ++ [y], grs', H5.length, c', by simp, A5.app _, CallsAt.grow r2 (by simpa using r5) (by simpa using hfull) (by simpa using hc') (by simpa using hu) (by simp), fun h => absurd (F5.own_lt _ h) (by omega), A5.K.len, by simp [hxv], hb5, ?_⟩
                exact st_keep' (by simp [frC]) (by simp [frC])
      · exact ⟨n, H, low', rfl, hkn0, A, C, st_keep' (by simp []) (by simp [])⟩
  · refine ⟨[(x, 0)], _, sv1, gv, mid1, vis0 ++ [x], _, [x], grs, H1.length, 1, by simp, A1', C1, N1, ?_, by simp, by simp, st_keep' (by simp []) (by simp [])⟩
    have := K1.len; simp at this; omega
end Go.Proofs.Ytajgeofhlgoifaa.G

/- Graphs: the least of a group. -/
set_option linter.unusedVariables false
set_option linter.unusedSimpArgs false
set_option maxRecDepth 20000
namespace Go.Proofs.Ytajgeofhlgoifaa.G
open Go Go.Proofs.Ytajgeofhlgoifaa.V Go.Proofs.Ytajgeofhlgoifaa.I Go.Sort Go.RowKit
def iid0 : Iid := ⟨0, 0, 0⟩
abbrev leastG (g : List Iid) : Iid := Tar.leastL lessB iid0 g
theorem minF_snoc (a : Iid) (l : List Iid) (x : Iid) : Tar.minF lessB a (l ++ [x]) = if lessB x (Tar.minF lessB a l) then x else Tar.minF lessB a l := by
  unfold Tar.minF; rw [List.foldl_append]; rfl
theorem ordG_lt (a b : Iid) : decide (ordG a b < 0) = lessB a b := by
  have := ltG a b
  unfold ltOf at this
  exact this
theorem gmin_ok (g : List Iid) (t : Tok) (hne : g ≠ []) (hl : g.length ≤ 100000) (H : AHeap) : ACalls Try.prog 56 [.list (g.map Iid.av) t, .func (.func 33) [] []] H fun r h' => r = Iid.av (leastG g) ∧ h' = H := by
  have hp : 0 < g.length := List.length_pos_iff.2 hne
  have hu : uni 3 (g.map Iid.av) = true := uni_map fun _ => rfl
  have hx0 : (g.map Iid.av)[0]? = some (Iid.av g[0]) := by simp [hp]
  have hgo := fun (a b : Iid) h => gorder_ok a b h
  unfold Iid.av Iid.c at hgo
  have hl0 : leastG g = Tar.minF lessB g[0] (g.drop 1) := by
    cases g with
    | nil => exact absurd rfl hne
    | cons a l => simp [leastG, Tar.leastL]
  rw [hl0]
  generalize hg0 : g[0] = a at *
  have q1 : ¬ ((g.length : Int) < 1) := by omega
  have q2 : (0 : Int) < (g.length : Int) := by omega
  refine acalls_of_awp Try.func56 rfl (by simp only [List.length_cons, List.length_nil]; decide) ?_
  simp only [params_cons, params_nil]
  refine awp_seq ?_
  refine zg ?_
  refine goes_done ?_
  (try simp only [vq, if_true, reduceIte, Nat.reduceEqDiff, reduceCtorEq])
  refine awp_seq ?_
  refine awp_seq ?_
  refine zh (by simp -implicitDefEqProofs (disch := (first | omega | (simp; done) | fail)) [if_pos, if_neg, wrap_i64, tmod_pos, tdiv_pos, Int.toNat_add, q1]; rfl) ?_
  refine goes_done ?_
  (try simp only [vq, if_true, reduceIte, Nat.reduceEqDiff, reduceCtorEq])
  refine awp_cond_f rfl ?_
  refine awp_skip ?_
  simp only [vq, if_true, reduceIte, Nat.reduceEqDiff, reduceCtorEq]
  refine awp_seq ?_
  refine zh (by simp -implicitDefEqProofs (disch := (first | omega | (simp; done) | fail)) [if_pos, if_neg, wrap_i64, tmod_pos, tdiv_pos, Int.toNat_add, hx0, hu, q2, Iid.av, Iid.c]; rfl) ?_
  refine goes_done ?_
  (try simp only [vq, if_true, reduceIte, Nat.reduceEqDiff, reduceCtorEq])
  refine awp_seq ?_
  refine awp_seq ?_
  refine zg ?_
  refine goes_done ?_
  (try simp only [vq, if_true, reduceIte, Nat.reduceEqDiff, reduceCtorEq])
  refine awp_block ?_
  refine awp_loop (fun z st => ∃ (i : Nat) (X : AHeap), z = g.length - i ∧ 1 ≤ i ∧ i ≤ g.length ∧ st.le ⟨Try.f56.ntmps, [(0, .list (g.map Iid.av) t), (1, .func (.func 33) [] []), (4, .ptr H.length 0), (5, .ptr (H.length + 1) 0), (6, iv (i : Nat))], H ++ (.cells [iv 0, iv 0, iv 0] :: .cells (Tar.minF lessB a ((g.drop 1).take (i - 1))).c :: X)⟩) (g.length - 1) ?_ ?_
  rotate_left
  rintro z st ⟨i, X, rfl, hi1, hi, hle⟩
  · refine awp_le hle ?_
    clear hle
    by_cases h9 : i = g.length
    · subst h9
      have q : ¬ (g.length : Int) < (g.length : Int) := by omega
      have htk : (g.drop 1).take (g.length - 1) = g.drop 1 := List.take_of_length_le (by simp)
      rw [htk]
      unfold Iid.c
      repeat (first | ((first | refine zd ?_ | refine zx ?_ | refine zk ?_ | refine zl ?_ | refine zr ?_); refine zq ?_) | refine zs ?_ | refine zh (by simp -implicitDefEqProofs (disch := (first | omega | (simp; done) | fail)) [if_pos, if_neg, wrap_i64, tmod_pos, tdiv_pos, Int.toNat_add, q]; rfl) ?_ | refine zb ?_ | refine zo ?_ | refine zt ?_ | refine zf ?_)
      first | refine zy (.inr rfl) ?_ | refine zy (.inl rfl) ?_
      simp [Iid.av, Iid.c]
    · have hlt : i < g.length := by omega
      have q : (i : Int) < (g.length : Int) := by omega
      have hx2 : (g.map Iid.av)[i]? = some (Iid.av g[i]) := by simp [hlt]
      have htk : (g.drop 1).take (i + 1 - 1) = (g.drop 1).take (i - 1) ++ [g[i]] := by
        have e : i + 1 - 1 = (i - 1) + 1 := by omega
        rw [e, List.take_succ_eq_append_getElem (by simp; omega)]
        congr 2
        rw [List.getElem_drop]
        congr 1; omega
      generalize g[i] = x at *
      have hms := minF_snoc a ((g.drop 1).take (i - 1)) x
      rw [← htk] at hms
      generalize Tar.minF lessB a ((g.drop 1).take (i - 1)) = m at *
      unfold Iid.c
      refine awp_seq ?_
      refine awp_seq ?_
      refine zh (by simp -implicitDefEqProofs (disch := (first | omega | (simp; done) | fail)) [if_pos, if_neg, wrap_i64, tmod_pos, tdiv_pos, Int.toNat_add, q]; rfl) ?_
      refine goes_done ?_
      (try simp only [vq, if_true, reduceIte, Nat.reduceEqDiff, reduceCtorEq])
      refine awp_cond_t rfl ?_
      refine awp_skip ?_
      simp only [vq, if_true, reduceIte, Nat.reduceEqDiff, reduceCtorEq]
      refine awp_seq ?_
      refine awp_block ?_
      refine awp_seq ?_
      have hlo := ordG_lt x m
      refine awp_draw (.q 0 (.q 1 (.q 2 (.q 3 (.q 4 (.a 5 (.a 6 (.q 7 (.done))))))))) (by kernel_rfl) (by kernel_rfl) (tree_start (goesT_eq (by simp -implicitDefEqProofs (disch := (first | omega | (simp; done) | fail)) [if_pos, if_neg, wrap_i64, tmod_pos, tdiv_pos, Int.toNat_add, hx2, hu, q, Iid.av, Iid.c]; rfl) ?_))
      refine zP (callable_of Try.func33) _ (hgo x m _) ?_
      rintro _ _ ⟨rfl, rfl⟩
      cases hb : lessB x m with
      | true =>
        rw [hb] at hlo hms
        refine goesT_eq (by simp -implicitDefEqProofs (disch := (first | omega | (simp; done) | fail)) [if_pos, if_neg, wrap_i64, tmod_pos, tdiv_pos, Int.toNat_add, hlo]; rfl) ?_
        refine goesT_done ?_
        (try simp only [vq, if_true, reduceIte, Nat.reduceEqDiff, reduceCtorEq])
        refine awp_cond_t rfl ?_
        repeat (first | ((first | refine zd ?_ | refine zx ?_ | refine zk ?_ | refine zl ?_ | refine zr ?_); refine zq ?_) | refine zs ?_ | refine zh (by simp -implicitDefEqProofs (disch := (first | omega | (simp; done) | fail)) [if_pos, if_neg, wrap_i64, tmod_pos, tdiv_pos, Int.toNat_add, hx2, hu, q, Iid.av, Iid.c]; rfl) ?_ | refine zb ?_ | refine zo ?_ | refine zt ?_ | refine zf ?_)
        refine ⟨g.length - (i + 1), by omega, i + 1, X, rfl, by omega, by omega, ?_⟩
        rw [hms]
        exact st_keep' (by simp [Iid.c]) (by simp [Iid.c])
      | false =>
        rw [hb] at hlo hms
        refine goesT_eq (by simp -implicitDefEqProofs (disch := (first | omega | (simp; done) | fail)) [if_pos, if_neg, wrap_i64, tmod_pos, tdiv_pos, Int.toNat_add, hlo]; rfl) ?_
        refine goesT_done ?_
        (try simp only [vq, if_true, reduceIte, Nat.reduceEqDiff, reduceCtorEq])
        refine awp_cond_f rfl ?_
        repeat (first | ((first | refine zd ?_ | refine zx ?_ | refine zk ?_ | refine zl ?_ | refine zr ?_); refine zq ?_) | refine zs ?_ | refine zg ?_ | refine zb ?_ | refine zo ?_ | refine zt ?_ | refine zf ?_)
        refine ⟨g.length - (i + 1), by omega, i + 1, X, rfl, by omega, by omega, ?_⟩
        rw [hms]
        exact st_keep' (by simp [Iid.c]) (by simp [Iid.c])
  · exact ⟨1, [], rfl, by omega, by omega, st_keep' (by simp [Tar.minF, Iid.c]) (by simp [Tar.minF, Iid.c])⟩
theorem least_ok (g : List Iid) (t : Tok) (hne : g ≠ []) (hl : g.length ≤ 100000) (H : AHeap) : ACalls Try.prog 34 [.list (g.map Iid.av) t] H fun r h' => r = Iid.av (leastG g) ∧ h' = H := by
  have hm := fun h => gmin_ok g .no hne hl h
  refine acalls_of_awp Try.func34 rfl (by simp only [List.length_cons, List.length_nil]; decide) ?_
  simp only [params_cons, params_nil]
  repeat (first | ((first | refine zd ?_ | refine zx ?_ | refine zk ?_ | refine zl ?_ | refine zr ?_); refine zq ?_) | refine zs ?_ | refine zg ?_ | refine zb ?_ | refine zo ?_ | refine zt ?_ | refine zf ?_)
  refine zp (callable_of Try.func56) _ (hm _) ?_
  rintro _ _ ⟨rfl, rfl⟩
  unfold Iid.av Iid.c
  refine ze ?_
  repeat (first | ((first | refine zd ?_ | refine zx ?_ | refine zk ?_ | refine zl ?_ | refine zr ?_); refine zq ?_) | refine zs ?_ | refine zg ?_ | refine zb ?_ | refine zo ?_ | refine zt ?_ | refine zf ?_)
  first | refine zy (.inr rfl) ?_ | refine zy (.inl rfl) ?_
  simp
theorem order1_ok (a b : List Iid) (ta tb : Tok) (ha : a ≠ []) (hb : b ≠ []) (la : a.length ≤ 100000) (lb : b.length ≤ 100000) (H : AHeap) : ACalls Try.prog 32 [.list (a.map Iid.av) ta, .list (b.map Iid.av) tb] H fun r h' => r = iv (ordG (leastG a) (leastG b)) ∧ h' = H := by
  have h1 := fun h => least_ok a .no ha la h
  have h2 := fun h => least_ok b .no hb lb h
  have h3 := fun h => gorder_ok (leastG a) (leastG b) h
  refine acalls_of_awp Try.func32 rfl (by simp only [List.length_cons, List.length_nil]; decide) ?_
  simp only [params_cons, params_nil]
  repeat (first | ((first | refine zd ?_ | refine zx ?_ | refine zk ?_ | refine zl ?_ | refine zr ?_); refine zq ?_) | refine zs ?_ | refine zg ?_ | refine zb ?_ | refine zo ?_ | refine zt ?_ | refine zf ?_)
  refine zp (callable_of Try.func34) _ (h1 _) ?_
  rintro _ _ ⟨rfl, rfl⟩
  refine ze ?_
  refine zp (callable_of Try.func34) _ (h2 _) ?_
  rintro _ _ ⟨rfl, rfl⟩
  refine ze ?_
  refine zp (callable_of Try.func33) _ (h3 _) ?_
  rintro _ _ ⟨rfl, rfl⟩
  refine ze ?_
  repeat (first | ((first | refine zd ?_ | refine zx ?_ | refine zk ?_ | refine zl ?_ | refine zr ?_); refine zq ?_) | refine zs ?_ | refine zg ?_ | refine zb ?_ | refine zo ?_ | refine zt ?_ | refine zf ?_)
  first | refine zY (.inr rfl) ?_ | refine zY (.inl rfl) ?_
  simp
end Go.Proofs.Ytajgeofhlgoifaa.G

/- Graphs: groups are sorted. -/
set_option linter.unusedVariables false
set_option linter.unusedSimpArgs false
set_option maxRecDepth 20000
namespace Go.Proofs.Ytajgeofhlgoifaa.G
open Go Go.Proofs.Ytajgeofhlgoifaa.V Go.Proofs.Ytajgeofhlgoifaa.I Go.Sort Go.RowKit
theorem gsortG_nil (t : Tok) (h : AHeap) : ACalls Try.prog 31 [.list [] t, .func (.func 32) [] []] h fun r h' => r = .tuple [] ∧ h' = h := fun w0 g w vs hv S => by
  obtain ⟨v, u, rfl, hva, hvf⟩ := vals_two hv
  obtain ⟨a, c, rfl⟩ : ∃ a c, v = .slice a 0 c := by
    cases hva with
    | list xs t a c k b o u hc hm hn hk ha h1 h2 ht => exact ⟨a, c, rfl⟩
  have hcall : Calls Try.prog 31 _ _ _ := AnyF.slices_SortFunc_none (P := Try.prog) { Try.sortG with } a c u w
  refine hcall.mono ?_
  rintro e w' ⟨rfl, rfl⟩
  exact ⟨.tuple [], _, h, g, rfl, .refl g, .tuple _ _ rfl fun i h => absurd h (by simp), S, rfl, rfl⟩
theorem bel_lv (l : List Iid) : Bel 0 (lv l) := bel_list (belL_map fun x => bel_av)
theorem gsortG_arr (gs : List (List Iid)) (aid c : Nat) (cs : List AV) (h : AHeap) (hg0 : 0 < gs.length) (hk : gs.length ≤ 1000000) (ho : h[aid]? = some (.cells cs)) (hc : cs.length = c) (hcl : gs.length ≤ c) (htk : cs.take gs.length = gs.map lv)
    (hne : ∀ g ∈ gs, g ≠ []) (hlg : ∀ g ∈ gs, g.length ≤ 100000) (hinj : ∀ (i j : Nat) (hi : i < gs.length) (hj : j < gs.length), leastG gs[i] = leastG gs[j] → i = j) :
    ACalls Try.prog 31 [.arr aid 0 gs.length c, .func (.func 32) [] []] h fun r h' => r = .tuple [] ∧ ∃ left : List (List Iid), left.Perm gs ∧ (left.Pairwise fun a b => lessB (leastG a) (leastG b) = true) ∧ h' = h.set aid (.cells (left.map lv ++ cs.drop gs.length)) := fun w0 g w vs hv S => by
  have h0 : 0 < c := by omega
  obtain ⟨v, u, rfl, hva, hvf⟩ := vals_two hv
  obtain ⟨hid, b, o, hb, hle, hm, hoff, rfl⟩ := hva.arr_eq
  obtain rfl : o = 0 := hoff h0
  have hu : u = .func (.func 32) #[] #[] := by
    cases hvf with
    | func fn first captured f c hf hc h1 h2 =>
      have e1 : f = #[] := Array.eq_empty_of_size_eq_zero hf.symm
      have e2 : c = #[] := Array.eq_empty_of_size_eq_zero hc.symm
      rw [e1, e2]
  subst hu
  have hO := S.obj aid _ ho
  rw [hb] at hO
  obtain ⟨hbase, ⟨cv, t, hh, hrel⟩, him⟩ := hO
  have hbl : b < w.heap.size := (Array.getElem?_eq_some_iff.1 hh).1
  have hsz : cv.size = c := by have h5 : cs.length = cv.toList.length := hrel.1; have h6 : cv.toList.length = cv.size := Array.length_toList; omega
  have hfl : ∀ i, w.frozen? ⟨b, i, none⟩ = false := fun i => frozen_no hh
  have hget : ∀ j (hj : j < gs.length), VRel g (lv gs[j]) (cv[j]'(by omega)) := fun j hj => by
    have h3 := hrel.2 j (by omega) (by simp; omega)
    have h4 : cs[j]? = some (lv gs[j]) := by
      have : (cs.take gs.length)[j]? = some (lv gs[j]) := by rw [htk]; simp [hj]
      rw [List.getElem?_take, if_pos hj] at this
      exact this
    rw [List.getElem?_eq_getElem (by omega)] at h4
    injection h4 with h4
    rw [h4, Array.getElem_toList] at h3
    exact h3
  haveI : Inhabited (Fin gs.length) := ⟨⟨0, hg0⟩⟩
  let encG : Fin gs.length → Value := fun i => cv[i.1]'(by have := i.2; omega)
  let cf : Fin gs.length → Fin gs.length → Int := fun i j => ordG (leastG gs[i]) (leastG gs[j])
  let d : Array (Fin gs.length) := (List.finRange gs.length).toArray
  have hds : d.size = gs.length := by simp [d]
  have hdg : ∀ j (hj : j < gs.length), d[j]! = ⟨j, hj⟩ := fun j hj => by
    rw [getElem!_pos d j (by omega)]
    simp [d]
  have hone : OneCell encG := fun i => by
    have := hget i.1 i.2
    show (cv[i.1]'_).oneCell' = true
    obtain ⟨A, c', hv', _⟩ := this.list_eq
    rw [hv']; rfl
  have hlt : ∀ x y, ltOf cf x y = lessB (leastG gs[x]) (leastG gs[y]) := fun x y => ltG _ _
  have hO : SWO (ltOf cf) := ⟨fun x => by rw [hlt]; exact less_lt.irr _, fun x y z => by rw [hlt, hlt, hlt]; exact less_lt.tr _ _ _, fun x y z => by rw [hlt, hlt, hlt]; exact less_lt.ntr⟩
  have hT : ∀ x y, ltOf cf x y = false → ltOf cf y x = false → x = y := fun x y h1 h2 => by
    rw [hlt] at h1 h2
    exact Fin.ext (hinj x.1 y.1 x.2 y.2 (less_lt.tot _ _ h1 h2))
  have hH : Holds encG w b 0 d := fun j hj => by
    have hj' : j < gs.length := by omega
    refine ⟨?_, hfl _⟩
    rw [Nat.zero_add, cells_cell hh, hdg j hj']
    have : j < cv.size := by omega
    simp [encG, this]
  have hcmp : CmpLays1 Try.prog 32 #[] encG cf b 0 d.size w := fun m os dk hs x y => by
    have hW : ∀ k, k < w.heap.size → k ≠ b → (sortWorld encG w b 0 m dk os).heap[k]? = w.heap[k]? := fun k hk hkb => by
      unfold sortWorld
      rw [heap_grow_old _ _ (by simp [putRow, mapBlock, Sort.ahead]; exact hk)]
      simp [putRow, mapBlock, Sort.ahead, Array.getElem?_modify, Ne.symm hkb]
    generalize sortWorld encG w b 0 m dk os = W at *
    have himm : ∀ bb o v, g.imm bb o = some v → imm0 W bb o = some v := imm_base S fun bb o v e => hW bb (by
      have := S.imm bb o v e
      unfold World.cell? at this
      rcases Nat.lt_or_ge bb w.heap.size with h | h
      · exact h
      · rw [Array.getElem?_eq_none h] at this; cases this) (fun e2 => by subst e2; rw [him o] at e; cases e)
    have hx := vrel_base (g2 := g0 W) himm (bel_lv _) (hget x.1 x.2)
    have hy := vrel_base (g2 := g0 W) himm (bel_lv _) (hget y.1 y.2)
    refine (order1_ok gs[x] gs[y] .no .no (hne _ (List.getElem_mem _)) (hne _ (List.getElem_mem _)) (hlg _ (List.getElem_mem _)) (hlg _ (List.getElem_mem _)) [] W (g0 W) W _ (cells_cons hx (cells_cons hy (cells_nil _))) (sim0 W)).mono ?_
    rintro e w' ⟨r, v, h', g', rfl, l, hr, S, rfl, -⟩
    exact ⟨by rw [hr.int_eq], grown_of S.below S.drawn⟩
  have hcall := Any.slices_SortFunc_total (P := Try.prog) Try.sortG encG hone cf hO 32 #[] b 0 c d w (enters_of Try.func32 (by kernel_rfl) rfl) hcmp hH hbl (by omega) hT
  have hcall' : Calls Try.prog 31 _ _ _ := hcall
  rw [hds] at hcall'
  refine hcall'.mono ?_
  rintro e w' ⟨rfl, n, os, rfl⟩
  have hdl : d.toList = List.finRange gs.length := by simp [d]
  rw [hdl]
  have hperm : ((List.finRange gs.length).mergeSort fun x y => !ltOf cf y x).Perm (List.finRange gs.length) := List.mergeSort_perm _ _
  have hpw : ((List.finRange gs.length).mergeSort fun x y => !ltOf cf y x).Pairwise fun a b => lessB (leastG gs[a]) (leastG gs[b]) = true := by
    have h1 := List.pairwise_mergeSort (le := fun x y => !ltOf cf y x) (fun a b c h1 h2 => by
      simp only [Bool.not_eq_true'] at h1 h2 ⊢
      exact hO.ntrans _ _ _ h2 h1) (fun a b => by
      cases h1 : ltOf cf b a with
      | false => simp
      | true =>
        have : ltOf cf a b = false := by
          cases h2 : ltOf cf a b with
          | false => rfl
          | true => have := hO.trans a b a h2 h1; rw [hO.irrefl] at this; cases this
        simp [this]) (List.finRange gs.length)
    have h2 := hperm.nodup_iff.2 (List.nodup_finRange gs.length)
    refine (h1.and h2).imp ?_
    rintro a b ⟨h3, h4⟩
    rw [← hlt]
    cases h5 : ltOf cf a b with
    | true => rfl
    | false => exact absurd (hT a b h5 (by simpa using h3)) h4
  generalize ((List.finRange gs.length).mergeSort fun x y => !ltOf cf y x) = ds at *
  have hdn : ds.length = gs.length := by rw [hperm.length_eq]; simp
  have hmg : (List.finRange gs.length).map (fun i => gs[i]) = gs := by
    apply List.ext_getElem
    · simp
    · intro i h1 h2; simp
  have hlm : (ds.map (fun i => gs[i])).Perm gs := by
    have := hperm.map (fun i : Fin gs.length => gs[i])
    rwa [hmg] at this
  have hw : (sortWorld encG w b 0 n ds.toArray os).heap[b]? = some (.cells (putCells encG 0 ds.toArray cv) t (0, 0)) := by
    unfold sortWorld
    rw [heap_grow_old _ _ (by simp [putRow, mapBlock, Sort.ahead]; exact hbl)]
    simp [putRow, mapBlock, Sort.ahead, Array.getElem?_modify, hh, onCells]
  have hother : ∀ k, k < w.heap.size → k ≠ b → (sortWorld encG w b 0 n ds.toArray os).heap[k]? = w.heap[k]? := fun k hk hkb => by
    unfold sortWorld
    rw [heap_grow_old _ _ (by simp [putRow, mapBlock, Sort.ahead]; exact hk)]
    simp [putRow, mapBlock, Sort.ahead, Array.getElem?_modify, Ne.symm hkb]
  refine ⟨.tuple [], _, h.set aid (.cells ((ds.map (fun i => gs[i])).map lv ++ cs.drop gs.length)), g, rfl, .refl g, .tuple _ _ rfl fun i h => absurd h (by simp), ?_, rfl, _, hlm, ?_, rfl⟩
  · refine S.turn (b := b) ho (by simp) (by rw [hb]; rfl) (by simp [sortWorld, grow, putRow, mapBlock, Sort.ahead]) rfl rfl rfl hother (fun o v e => by rw [him o] at e; cases e) (fun o v e => by rw [him o] at e; cases e) ?_ (by simp [sortWorld, grow, putRow, mapBlock, Sort.ahead])
    rw [hb]
    refine ⟨hbase, ⟨_, t, hw, ?_⟩, him⟩
    refine ⟨by simp [putCells, hsz, hdn]; omega, fun i h1 h2 => ?_⟩
    have hi : i < c := by simpa [putCells, hsz] using h2
    simp only [putCells, Array.toList_mapIdx, List.getElem_mapIdx, Array.getElem_toList]
    by_cases hlt2 : i < gs.length
    · have hi2 : i < ds.length := by omega
      rw [if_pos ⟨Nat.zero_le _, by simpa [hdn] using hlt2⟩, List.getElem_append_left (by simp; omega)]
      simp only [List.getElem_map, Nat.sub_zero]
      rw [getElem!_pos ds.toArray i (by simpa using hi2)]
      exact hget (ds[i]).1 (ds[i]).2
    · rw [if_neg (by simp [hdn]; omega)]
      have e1 : ((ds.map (fun i => gs[i])).map lv ++ cs.drop gs.length)[i]? = cs[i]? := by
        rw [List.getElem?_append_right (by simp; omega)]
        simp only [List.length_map, hdn, List.getElem?_drop]
        congr 1; omega
      have h4 : i < cs.length := by omega
      rw [List.getElem?_eq_getElem h1, List.getElem?_eq_getElem h4] at e1
      injection e1 with e1
      rw [e1]
      have := hrel.2 i h4 (by simp; omega)
      simpa using this
  · exact List.pairwise_map.2 hpw
end Go.Proofs.Ytajgeofhlgoifaa.G

/- Graphs: may a group be next? -/
set_option linter.unusedVariables false
set_option linter.unusedSimpArgs false
set_option maxRecDepth 20000
namespace Go.Proofs.Ytajgeofhlgoifaa.G
open Go Go.Proofs.Ytajgeofhlgoifaa.V Go.Proofs.Ytajgeofhlgoifaa.I Go.Sort Go.RowKit
abbrev mayG (l : List Nod) (now g : List Iid) : Bool := Tar.mayB (dpOf l) now g
theorem mayG_no {l : List Nod} {now g : List Iid} {x y : Iid} (hx : x ∈ g) (hy : y ∈ dpOf l x) (h1 : y ∉ now) (h2 : y ∉ g) : mayG l now g = false := by
  cases h : mayG l now g with
  | false => rfl
  | true =>
    rcases (Tar.mayB_iff.1 h) x hx y hy with h | h
    · exact absurd h h1
    · exact absurd h h2
theorem may_ok (l : List Nod) (now : List Iid) (i1 i2 : Nat) (g : List Iid) (t : Tok) (hl : g.length ≤ 100000) (hW : ∀ f, (dpOf l f).length ≤ 100000) (H : AHeap) (hn : H[i1]? = some (nodP l).o) (hd : H[i2]? = some (ms now).o) :
    ACalls Try.prog 36 [.agg [.map i1, .map i2], .list (g.map Iid.av) t] H fun r h' => r = .bool (mayG l now g) ∧ h' = H := by
  have hb1 : ∀ Y : AHeap, (H ++ Y)[i1]? = some (mapO Iid.av (nodP l).1 (nodP l).2) := fun Y => by rw [List.getElem?_append_left (get_lt hn)]; exact hn
  have hb2 : ∀ Y : AHeap, (H ++ Y)[i2]? = some (mapO Iid.av (ms now).1 (ms now).2) := fun Y => by rw [List.getElem?_append_left (get_lt hd)]; exact hd
  have hu : uni 3 (g.map Iid.av) = true := uni_map fun _ => rfl
  have hco : ∀ (y : Iid) (h : AHeap), ACalls Try.prog 57 [.list (g.map Iid.av) .no, .agg [iv y.e, iv y.n, iv y.o]] h fun r h' => r = .bool (g.contains y) ∧ h' = h := fun y h => contains_ok g y .no hl h
  refine acalls_of_awp Try.func36 rfl (by simp only [List.length_cons, List.length_nil]; decide) ?_
  simp only [params_cons, params_nil]
  refine awp_seq ?_
  refine zg ?_
  refine goes_done ?_
  (try simp only [vq, if_true, reduceIte, Nat.reduceEqDiff, reduceCtorEq])
  refine awp_hard (id := H.length) (by simp -implicitDefEqProofs; rfl) ?_
  simp -implicitDefEqProofs only [Slots.melt, AV.melt, Nat.add_left_cancel_iff, Nat.add_eq_left, Nat.left_eq_add, Nat.reduceEqDiff, reduceIte, Nat.succ_ne_self, Nat.one_ne_zero, Nat.zero_ne_one, List.set_append_right, List.set_append_left, Nat.sub_self, Nat.le_refl, Nat.add_sub_cancel_left, Nat.le_add_right, List.set_cons_zero, List.set_cons_succ]
  refine awp_seq ?_
  refine awp_seq ?_
  refine zg ?_
  refine goes_done ?_
  (try simp only [vq, if_true, reduceIte, Nat.reduceEqDiff, reduceCtorEq])
  refine awp_block ?_
  refine awp_loop (fun z st => ∃ (i : Nat) (X : AHeap), z = g.length - i ∧ i ≤ g.length ∧ (∀ x ∈ g.take i, ∀ y ∈ dpOf l x, y ∈ now ∨ y ∈ g) ∧ st.le ⟨Try.f36.ntmps, [(1, .list (g.map Iid.av) t), (2, .ref [.map i1, .map i2] 0), (9, .list (g.map Iid.av) t), (10, iv (g.length : Nat)), (11, iv (i : Nat))], H ++ X⟩) g.length ?_ ?_
  rotate_left
  rintro z st ⟨i, X, rfl, hi, hok, hle⟩
  · refine awp_le hle ?_
    clear hle
    by_cases h9 : i = g.length
    · subst h9
      have q : ¬ (g.length : Int) < (g.length : Int) := by omega
      rw [List.take_length] at hok
      have hm : mayG l now g = true := Tar.mayB_iff.2 hok
      repeat (first | ((first | refine zd ?_ | refine zx ?_ | refine zk ?_ | refine zl ?_ | refine zr ?_); refine zq ?_) | refine zs ?_ | refine zh (by simp -implicitDefEqProofs (disch := (first | omega | (simp; done) | fail)) [if_pos, if_neg, wrap_i64, tmod_pos, tdiv_pos, Int.toNat_add, q]; rfl) ?_ | refine zb ?_ | refine zo ?_ | refine zt ?_ | refine zf ?_)
      first | refine zy (.inr rfl) ?_ | refine zy (.inl rfl) ?_
      simp [hm]
    · have hlt : i < g.length := by omega
      have q : (i : Int) < (g.length : Int) := by omega
      have hx2 : (g.map Iid.av)[i]? = some (Iid.av g[i]) := by simp [hlt]
      have hxg : g[i] ∈ g := List.getElem_mem hlt
      have htk : ∀ x, x ∈ g.take (i + 1) ↔ x ∈ g.take i ∨ x = g[i] := fun x => by rw [List.take_succ_eq_append_getElem hlt, List.mem_append, List.mem_singleton]
      generalize g[i] = x at *
      refine awp_seq ?_
      refine zh (by simp -implicitDefEqProofs (disch := (first | omega | (simp; done) | fail)) [if_pos, if_neg, wrap_i64, tmod_pos, tdiv_pos, Int.toNat_add, q]; rfl) ?_
      refine goes_done ?_
      (try simp only [vq, if_true, reduceIte, Nat.reduceEqDiff, reduceCtorEq])
      refine awp_seq ?_
      refine awp_cond_t rfl ?_
      refine awp_skip ?_
      simp only [vq, if_true, reduceIte, Nat.reduceEqDiff, reduceCtorEq]
      refine awp_seq ?_
      refine awp_block ?_
      refine awp_seq ?_
      refine zh (by simp -implicitDefEqProofs (disch := (first | omega | (simp; done) | fail)) [if_pos, if_neg, wrap_i64, tmod_pos, tdiv_pos, Int.toNat_add, hx2, hu, q, Iid.av, Iid.c]; rfl) ?_
      refine goes_done ?_
      (try simp only [vq, if_true, reduceIte, Nat.reduceEqDiff, reduceCtorEq])
      refine awp_seq ?_
      refine awp_region_at 3 rfl rfl ?_
      refine zn ?_
      refine goes_done ?_
      refine aops_look (id := i1) (es := (nodP l).1) (clock := (nodP l).2) (k := x) (z := zAt) (c := false) iid_key rfl rfl Try.underlying53 zero_attr rfl rfl (by simp [hb1]) ?_
      obtain ⟨td, htd⟩ := look_nod l x
      rw [htd]
      refine aops_end ?_
      refine zn ?_
      refine goes_done ?_
      simp only [vq, if_true, reduceIte, Nat.reduceEqDiff, reduceCtorEq]
      refine awp_block ?_
      refine awp_loop (fun z st => ∃ (j : Nat) (X : AHeap), z = (dpOf l x).length - j ∧ j ≤ (dpOf l x).length ∧ (∀ y ∈ (dpOf l x).take j, y ∈ now ∨ y ∈ g) ∧ st.le ⟨Try.f36.ntmps, [(1, .list (g.map Iid.av) t), (2, .ref [.map i1, .map i2] 0), (9, .list (g.map Iid.av) t), (10, iv (g.length : Nat)), (11, iv (i : Nat)), (19, .list ((dpOf l x).map Iid.av) td), (20, iv ((dpOf l x).length : Nat)), (21, iv (j : Nat))], H ++ X⟩) (dpOf l x).length ?_ ?_
      rotate_left
      rintro z st ⟨j, X2, rfl, hj, hokj, hle⟩
      · refine awp_le hle ?_
        clear hle
        by_cases h8 : j = (dpOf l x).length
        · subst h8
          have qj : ¬ ((dpOf l x).length : Int) < ((dpOf l x).length : Int) := by omega
          rw [List.take_length] at hokj
          repeat (first | ((first | refine zd ?_ | refine zx ?_ | refine zk ?_ | refine zl ?_ | refine zr ?_); refine zq ?_) | refine zs ?_ | refine zh (by simp -implicitDefEqProofs (disch := (first | omega | (simp; done) | fail)) [if_pos, if_neg, wrap_i64, tmod_pos, tdiv_pos, Int.toNat_add, qj]; rfl) ?_ | refine zb ?_ | refine zo ?_ | refine zt ?_ | refine zf ?_)
          refine ⟨g.length - (i + 1), by omega, i + 1, X2, rfl, hlt, fun w hw => ?_, st_keep' (by simp []) (by simp [])⟩
          rcases (htk w).1 hw with h | rfl
          · exact hok w h
          · exact hokj
        · have hltj : j < (dpOf l x).length := by omega
          have qj : (j : Int) < ((dpOf l x).length : Int) := by omega
          have hy2 : ((dpOf l x).map Iid.av)[j]? = some (Iid.av (dpOf l x)[j]) := by simp [hltj]
          have huy : uni 3 ((dpOf l x).map Iid.av) = true := uni_map fun _ => rfl
          have hyd : (dpOf l x)[j] ∈ dpOf l x := List.getElem_mem hltj
          have htj : ∀ y, y ∈ (dpOf l x).take (j + 1) ↔ y ∈ (dpOf l x).take j ∨ y = (dpOf l x)[j] := fun y => by rw [List.take_succ_eq_append_getElem hltj, List.mem_append, List.mem_singleton]
          have hWx := hW x
          generalize (dpOf l x)[j] = y at *
          refine awp_seq ?_
          refine zh (by simp -implicitDefEqProofs (disch := (first | omega | (simp; done) | fail)) [if_pos, if_neg, wrap_i64, tmod_pos, tdiv_pos, Int.toNat_add, qj]; rfl) ?_
          refine goes_done ?_
          (try simp only [vq, if_true, reduceIte, Nat.reduceEqDiff, reduceCtorEq])
          refine awp_seq ?_
          refine awp_cond_t rfl ?_
          refine awp_skip ?_
          simp only [vq, if_true, reduceIte, Nat.reduceEqDiff, reduceCtorEq]
          refine awp_seq ?_
          refine awp_block ?_
          refine awp_seq ?_
          refine zh (by simp -implicitDefEqProofs (disch := (first | omega | (simp; done) | fail)) [if_pos, if_neg, wrap_i64, tmod_pos, tdiv_pos, Int.toNat_add, hy2, huy, qj, Iid.av, Iid.c]; rfl) ?_
          refine goes_done ?_
          (try simp only [vq, if_true, reduceIte, Nat.reduceEqDiff, reduceCtorEq])
          refine awp_seq ?_
          refine awp_region_at 3 rfl rfl ?_
          refine zn ?_
          refine goes_done ?_
          refine aops_look (id := i2) (es := (ms now).1) (clock := (ms now).2) (k := y) (z := .bool false) (c := false) iid_key rfl rfl Try.underlying54 zero_bool rfl rfl (by simp [hb2]) ?_
          rw [done_get]
          refine aops_end ?_
          by_cases hyn : y ∈ now
          · simp only [hyn, decide_true]
            refine zn ?_
            refine goes_done ?_
            (try simp only [vq, if_true, reduceIte, Nat.reduceEqDiff, reduceCtorEq])
            refine awp_cond_f rfl ?_
            repeat (first | ((first | refine zd ?_ | refine zx ?_ | refine zk ?_ | refine zl ?_ | refine zr ?_); refine zq ?_) | refine zs ?_ | refine zg ?_ | refine zb ?_ | refine zo ?_ | refine zt ?_ | refine zf ?_)
            refine ⟨(dpOf l x).length - (j + 1), by omega, j + 1, X2 ++ [.cells [iv y.e, iv y.n, iv y.o]], rfl, hltj, fun w hw => ?_, st_keep' (by simp []) (by simp [])⟩
            rcases (htj w).1 hw with h | rfl
            · exact hokj w h
            · exact .inl hyn
          · simp only [hyn, decide_false]
            refine zn ?_
            refine zp (callable_of Try.func57) _ (hco y _) ?_
            rintro _ _ ⟨rfl, rfl⟩
            by_cases hyg : y ∈ g
            · have e : g.contains y = true := by simpa using hyg
              rw [e]
              refine ze ?_
              refine goes_done ?_
              (try simp only [vq, if_true, reduceIte, Nat.reduceEqDiff, reduceCtorEq])
              refine awp_cond_f rfl ?_
              repeat (first | ((first | refine zd ?_ | refine zx ?_ | refine zk ?_ | refine zl ?_ | refine zr ?_); refine zq ?_) | refine zs ?_ | refine zg ?_ | refine zb ?_ | refine zo ?_ | refine zt ?_ | refine zf ?_)
              refine ⟨(dpOf l x).length - (j + 1), by omega, j + 1, X2 ++ [.cells [iv y.e, iv y.n, iv y.o]], rfl, hltj, fun w hw => ?_, st_keep' (by simp []) (by simp [])⟩
              rcases (htj w).1 hw with h | rfl
              · exact hokj w h
              · exact .inr hyg
            · have e : g.contains y = false := by simpa using hyg
              rw [e]
              have hm := mayG_no (l := l) hxg hyd hyn hyg
              refine ze ?_
              refine goes_done ?_
              (try simp only [vq, if_true, reduceIte, Nat.reduceEqDiff, reduceCtorEq])
              refine awp_cond_t rfl ?_
              repeat (first | ((first | refine zd ?_ | refine zx ?_ | refine zk ?_ | refine zl ?_ | refine zr ?_); refine zq ?_) | refine zs ?_ | refine zg ?_ | refine zb ?_ | refine zo ?_ | refine zt ?_ | refine zf ?_)
              first | refine zy (.inr rfl) ?_ | refine zy (.inl rfl) ?_
              simp [hm]
      · exact ⟨0, X ++ [.cells [iv x.e, iv x.n, iv x.o]], rfl, by omega, by simp, st_keep' (by simp []) (by simp [])⟩
  · exact ⟨0, [.dead], rfl, by omega, by simp, st_keep' (by simp []) (by simp [])⟩
end Go.Proofs.Ytajgeofhlgoifaa.G

/- Graphs: the first group that may be next. -/
set_option linter.unusedVariables false
set_option linter.unusedSimpArgs false
set_option maxRecDepth 20000
namespace Go.Proofs.Ytajgeofhlgoifaa.G
open Go Go.Proofs.Ytajgeofhlgoifaa.V Go.Proofs.Ytajgeofhlgoifaa.I Go.Sort Go.RowKit
theorem lv_uni (gs : List (List Iid)) : uni 1 (gs.map lv) = true := uni_map fun _ => rfl
def findZ (l : List Nod) (now : List Iid) (gs : List (List Iid)) : Int := match gs.findIdx? (mayG l now) with
  | some i => (i : Nat)
  | none => -1
theorem gidx_ok (l : List Nod) (now : List Iid) (i1 i2 : Nat) (gs : List (List Iid)) (t : Tok) (hn : gs.length ≤ 100000) (hl : ∀ g ∈ gs, g.length ≤ 100000) (hW : ∀ f, (dpOf l f).length ≤ 100000) (H : AHeap) (h1 : H[i1]? = some (nodP l).o) (h2 : H[i2]? = some (ms now).o) :
    ACalls Try.prog 35 [.list (gs.map lv) t, .func (.func 36) [.agg [.map i1, .map i2]] []] H fun r h' => r = iv (findZ l now gs) ∧ h' = H := by
  have hu := lv_uni gs
  have hmay : ∀ g ∈ gs, ∀ t h, h[i1]? = some (nodP l).o → h[i2]? = some (ms now).o → ACalls Try.prog 36 [.agg [.map i1, .map i2], .list (g.map Iid.av) t] h fun r h' => r = .bool (mayG l now g) ∧ h' = h := fun g hg t h e1 e2 => may_ok l now i1 i2 g t (hl g hg) hW h e1 e2
  refine acalls_of_awp Try.func35 rfl (by simp only [List.length_cons, List.length_nil]; decide) ?_
  simp only [params_cons, params_nil]
  refine awp_seq ?_
  refine zg ?_
  refine goes_done ?_
  (try simp only [vq, if_true, reduceIte, Nat.reduceEqDiff, reduceCtorEq])
  refine awp_seq ?_
  refine awp_seq ?_
  refine zg ?_
  refine goes_done ?_
  (try simp only [vq, if_true, reduceIte, Nat.reduceEqDiff, reduceCtorEq])
  refine awp_block ?_
  refine awp_loop (fun z st => ∃ (i : Nat), z = gs.length - i ∧ i ≤ gs.length ∧ (∀ (j : Nat) (g : List Iid), j < i → gs[j]? = some g → mayG l now g = false) ∧ st.le ⟨Try.f35.ntmps, [(0, .list (gs.map lv) t), (1, .func (.func 36) [.agg [.map i1, .map i2]] []), (7, iv (gs.length : Nat)), (8, iv (i : Nat))], H⟩) gs.length ?_ ?_
  rotate_left
  rintro z st ⟨i, rfl, hi, hno, hle⟩
  · refine awp_le hle ?_
    clear hle
    by_cases h9 : i = gs.length
    · subst h9
      have q : ¬ (gs.length : Int) < (gs.length : Int) := by omega
      have hf : findZ l now gs = -1 := by
        unfold findZ
        have : gs.findIdx? (mayG l now) = none := by
          rw [List.findIdx?_eq_none_iff]
          intro g hg
          obtain ⟨j, hj, e⟩ := List.getElem_of_mem hg
          exact hno j g hj (by rw [List.getElem?_eq_getElem hj, e])
        rw [this]
      repeat (first | ((first | refine zd ?_ | refine zx ?_ | refine zk ?_ | refine zl ?_ | refine zr ?_); refine zq ?_) | refine zs ?_ | refine zh (by simp -implicitDefEqProofs (disch := (first | omega | (simp; done) | fail)) [if_pos, if_neg, wrap_i64, tmod_pos, tdiv_pos, Int.toNat_add, q]; rfl) ?_ | refine zb ?_ | refine zo ?_ | refine zt ?_ | refine zf ?_)
      first | refine zY (.inr rfl) ?_ | refine zY (.inl rfl) ?_
      simp [hf]
    · have hlt : i < gs.length := by omega
      have q : (i : Int) < (gs.length : Int) := by omega
      have hx2 : (gs.map lv)[i]? = some (lv gs[i]) := by simp [hlt]
      have hxg : gs[i] ∈ gs := List.getElem_mem hlt
      have hgi : gs[i]? = some gs[i] := List.getElem?_eq_getElem hlt
      generalize gs[i] = g at *
      have hm := hmay g hxg .no H h1 h2
      refine awp_seq ?_
      refine zh (by simp -implicitDefEqProofs (disch := (first | omega | (simp; done) | fail)) [if_pos, if_neg, wrap_i64, tmod_pos, tdiv_pos, Int.toNat_add, q]; rfl) ?_
      refine goes_done ?_
      (try simp only [vq, if_true, reduceIte, Nat.reduceEqDiff, reduceCtorEq])
      refine awp_seq ?_
      refine awp_cond_t rfl ?_
      refine awp_skip ?_
      simp only [vq, if_true, reduceIte, Nat.reduceEqDiff, reduceCtorEq]
      refine awp_seq ?_
      refine awp_block ?_
      refine awp_seq ?_
      refine zh (by simp -implicitDefEqProofs (disch := (first | omega | (simp; done) | fail)) [if_pos, if_neg, wrap_i64, tmod_pos, tdiv_pos, Int.toNat_add, q]; rfl) ?_
      refine goes_done ?_
      (try simp only [vq, if_true, reduceIte, Nat.reduceEqDiff, reduceCtorEq])
      refine awp_seq ?_
      repeat (first | ((first | refine zd ?_ | refine zx ?_ | refine zk ?_ | refine zl ?_ | refine zr ?_); refine zq ?_) | refine zs ?_ | refine zh (by simp -implicitDefEqProofs (disch := (first | omega | (simp; done) | fail)) [if_pos, if_neg, wrap_i64, tmod_pos, tdiv_pos, Int.toNat_add, hx2, hu, q, lv]; rfl) ?_ | refine zb ?_ | refine zo ?_ | refine zt ?_ | refine zf ?_)
      refine goes_callS (callable_of Try.func36) (by simp -implicitDefEqProofs (disch := (first | omega | (simp; done) | fail)) [if_pos, if_neg, wrap_i64, tmod_pos, tdiv_pos, Int.toNat_add] <;> first | rfl | omega) _ hm ?_
      rintro _ _ ⟨rfl, rfl⟩
      cases hb : mayG l now g with
      | true =>
        have hf : findZ l now gs = (i : Nat) := by
          unfold findZ
          have : gs.findIdx? (mayG l now) = some i := by
            rw [List.findIdx?_eq_some_iff_getElem]
            refine ⟨hlt, ?_, fun j hj => ?_⟩
            · rw [List.getElem?_eq_getElem hlt] at hgi
              injection hgi with e
              rw [e]; exact hb
            · have hjl : j < gs.length := by omega
              simp [hno j gs[j] hj (List.getElem?_eq_getElem hjl)]
          rw [this]
        refine ze ?_
        refine goes_done ?_
        (try simp only [vq, if_true, reduceIte, Nat.reduceEqDiff, reduceCtorEq])
        refine awp_cond_t rfl ?_
        repeat (first | ((first | refine zd ?_ | refine zx ?_ | refine zk ?_ | refine zl ?_ | refine zr ?_); refine zq ?_) | refine zs ?_ | refine zg ?_ | refine zb ?_ | refine zo ?_ | refine zt ?_ | refine zf ?_)
        first | refine zY (.inr rfl) ?_ | refine zY (.inl rfl) ?_
        simp [hf]
      | false =>
        refine ze ?_
        refine goes_done ?_
        (try simp only [vq, if_true, reduceIte, Nat.reduceEqDiff, reduceCtorEq])
        refine awp_cond_f rfl ?_
        repeat (first | ((first | refine zd ?_ | refine zx ?_ | refine zk ?_ | refine zl ?_ | refine zr ?_); refine zq ?_) | refine zs ?_ | refine zg ?_ | refine zb ?_ | refine zo ?_ | refine zt ?_ | refine zf ?_)
        refine ⟨gs.length - (i + 1), by omega, i + 1, rfl, hlt, fun j g' hj e => ?_, st_keep' (by simp []) (by simp [])⟩
        by_cases ej : j = i
        · subst ej
          rw [hgi] at e
          injection e with e
          rw [← e]; exact hb
        · exact hno j g' (by omega) e
  · exact ⟨0, rfl, by omega, fun j g h => by omega, st_keep' (by simp []) (by simp [])⟩
end Go.Proofs.Ytajgeofhlgoifaa.G
