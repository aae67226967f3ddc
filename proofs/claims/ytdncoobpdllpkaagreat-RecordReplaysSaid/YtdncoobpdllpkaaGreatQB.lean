import Derived.Test.YtdncoobpdllpkaaGreatQA
import Derived.Test.YtdncoobpdllpkaaGreatDD
import Derived.Test.YtdncoobpdllpkaaGreatV29
/- What a node knows: Replay, Next. -/
set_option linter.unusedVariables false
set_option linter.unusedSimpArgs false
set_option maxRecDepth 20000
namespace Go.Proofs.YtdncoobpdllpkaaGreat.Q
open Go Go.Proofs.YtdncoobpdllpkaaGreat.V Go.Proofs.YtdncoobpdllpkaaGreat.N Go.Proofs.YtdncoobpdllpkaaGreat.D Go.RowKit
attribute [local simp] strip_keys
theorem Stt.box3 {h X : AHeap} {a b d1 d2 d3 : AObj} {s : SM} {mid : Nat} {c c' : List AV} (hs : Stt (h ++ [a, b, .cells c, d1, d2, d3] ++ X) s mid) : Stt (h ++ a :: b :: .cells c' :: d1 :: d2 :: d3 :: X) s mid := by
  have h1 : Stt ((h ++ [a, b]) ++ .cells c :: ([d1, d2, d3] ++ X)) s mid := by simpa using hs
  simpa using h1.box (c' := c')
theorem replay_ok (x : Snap) (ls : List (List UInt8)) (t : Tok) (hl : ls.length ≤ 9999) (hf : ∀ b ∈ ls, Fit b) (h : AHeap) :
    ACalls Tryz.prog 6 [.agg x.c, .list (ls.map byl) t] h fun v h' => ∃ X mid', v = stv (repS (x, []) ls) mid' ∧ h' = h ++ X ∧ Stt h' (repS (x, []) ls) mid' ∧ MRis (repS (x, []) ls).2 := by
  unfold Snap.c
  refine acalls_of_awp Tryz.func6 rfl (by simp only [List.length_cons, List.length_nil]; decide) ?_
  simp only [params_cons, params_nil]
  repeat (first | ((first | refine zd ?_ | refine zx ?_ | refine zk ?_ | refine zl ?_ | refine zr ?_); refine zq ?_) | refine zs ?_ | refine zh (by simp -implicitDefEqProofs (disch := (first | omega | (simp; done) | fail)) [if_pos, if_neg, wrap_i64, tmod_pos, tdiv_pos, Int.toNat_add, entv_s, sesv_s, iv_s]; rfl) ?_ | refine zb ?_ | refine zo ?_ | refine zt ?_ | refine zf ?_)
  refine goes_callS (callable_of Tryz.func16) (by simp -implicitDefEqProofs (disch := (first | omega | (simp; done) | fail)) [if_pos, if_neg, wrap_i64, tmod_pos, tdiv_pos, Int.toNat_add, Snap.c, entv_s, sesv_s, iv_s] <;> first | rfl | omega) _ (begin_ok x _) ?_
  rintro _ _ ⟨rfl, c1, c2, rfl⟩
  have hS : ∀ a b c : AObj, Stt (h ++ [a, b, c, c1, c2, mapO Iid.av [] 0]) (x, []) (h.length + 3 + 2) := fun a b c => ⟨[], 0, by rw [List.getElem?_append_right (by omega), show h.length + 3 + 2 - h.length = 5 by omega]; rfl, Rep.nil⟩
  have hb : ∀ a b c : AObj, (h ++ [a, b, c, c1, c2, mapO Iid.av [] 0])[h.length + 1]? = some b := fun a b c => by rw [List.getElem?_append_right (by omega), show h.length + 1 - h.length = 1 by omega]; rfl
  refine goes_eq (by simp -implicitDefEqProofs (disch := (first | omega | (simp; done) | fail)) [if_pos, if_neg, wrap_i64, tmod_pos, tdiv_pos, Int.toNat_add, sv]; rfl) ?_
  repeat (first | ((first | refine zd ?_ | refine zx ?_ | refine zk ?_ | refine zl ?_ | refine zr ?_); refine zq ?_) | refine zs ?_ | refine zh (by simp -implicitDefEqProofs (disch := (first | omega | (simp; done) | fail)) [if_pos, if_neg, wrap_i64, tmod_pos, tdiv_pos, Int.toNat_add, sv]; rfl) ?_ | refine zb ?_ | refine zo ?_ | refine zt ?_ | refine zf ?_)
  refine goes_callS (callable_of Tryz.func15) (by simp -implicitDefEqProofs (disch := (first | omega | (simp; done) | fail)) [if_pos, if_neg, wrap_i64, tmod_pos, tdiv_pos, Int.toNat_add, stv, sv] <;> first | rfl | omega) _ (fold_ok (x, []) (h.length + 3 + 2) (h.length + 1) t ls _ (hb _ _ _) (hS _ _ _) .nil (by simpa using hl) hf) ?_
  rintro _ _ ⟨X, m, rfl, rfl, hS2, hM⟩
  generalize repS (x, []) ls = s2 at *
  unfold stv sv
  refine ze ?_
  repeat (first | ((first | refine zd ?_ | refine zx ?_ | refine zk ?_ | refine zl ?_ | refine zr ?_); refine zq ?_) | refine zs ?_ | refine zh (by simp -implicitDefEqProofs (disch := (first | omega | (simp; done) | fail)) [if_pos, if_neg, wrap_i64, tmod_pos, tdiv_pos, Int.toNat_add, entv_s, sesv_s, iv_s, idv_s]; rfl) ?_ | refine zb ?_ | refine zo ?_ | refine zt ?_ | refine zf ?_)
  first | refine body_all (.inr rfl) (by simp -implicitDefEqProofs; rfl) (by simp -implicitDefEqProofs; rfl) (by first | (simp; done) | (simp; omega) | omega) ?_ | refine body_all (.inl rfl) (by simp -implicitDefEqProofs; rfl) (by simp -implicitDefEqProofs; rfl) (by first | (simp; done) | (simp; omega) | omega) ?_
  simp only [List.map_map]
  exact ⟨_, m, rfl, rfl, hS2.box3, hM⟩
def nxS (node n : Int) (x : Iid) : Int := if x.n = node then (if n < IntKind.i64.wrap (x.o + 1) then IntKind.i64.wrap (x.o + 1) else n) else n
def nxI (l : List Iid) (node : Int) : Int := l.foldl (nxS node) 0
theorem next_ok (s : SM) (mid : Nat) (node : Int) (hl : s.2.length ≤ 100000) (h : AHeap) : ACalls Tryz.prog 9 [stv s mid, iv node] h fun v h' => v = iv (nxI (s.2.map (·.1)) node) ∧ h' = h := by
  obtain ⟨L, hL⟩ : ∃ L, s.2.map (·.1) = L := ⟨_, rfl⟩
  have hLl : L.length ≤ 100000 := by rw [← hL]; simpa using hl
  unfold stv sv
  rw [hL]
  refine acalls_of_awp Tryz.func9 rfl (by simp only [List.length_cons, List.length_nil]; decide) ?_
  simp only [params_cons, params_nil]
  repeat (first | ((first | refine zd ?_ | refine zx ?_ | refine zk ?_ | refine zl ?_ | refine zr ?_); refine zq ?_) | refine zs ?_ | refine zh (by simp -implicitDefEqProofs (disch := (first | omega | (simp; done) | fail)) [if_pos, if_neg, wrap_i64, tmod_pos, tdiv_pos, Int.toNat_add, entv_s, sesv_s, iv_s, idv_s]; rfl) ?_ | refine zb ?_ | refine zo ?_ | refine zt ?_ | refine zf ?_)
  refine awp_loop (fun z st => ∃ (i : Nat) (X : AHeap), z = L.length - i ∧ i ≤ L.length ∧ st.le ⟨Tryz.f9.ntmps, [(1, iv node), (5, iv (nxI (L.take i) node)), (9, .list (L.map Iid.av) .no), (10, iv (L.length : Nat)), (11, iv (i : Nat))], h ++ X⟩) L.length ?_ ?_
  rotate_left
  rintro z st ⟨i, X, rfl, hi, hle⟩
  · refine awp_le hle ?_
    clear hle
    by_cases h9 : i = L.length
    · subst h9
      have q : ¬ (L.length : Int) < (L.length : Int) := by omega
      rw [List.take_length] at *
      repeat (first | ((first | refine zd ?_ | refine zx ?_ | refine zk ?_ | refine zl ?_ | refine zr ?_); refine zq ?_) | refine zs ?_ | refine zh (by simp -implicitDefEqProofs (disch := (first | omega | (simp; done) | fail)) [if_pos, if_neg, wrap_i64, tmod_pos, tdiv_pos, Int.toNat_add, q]; rfl) ?_ | refine zb ?_ | refine zo ?_ | refine zt ?_ | refine zf ?_)
      first | refine zy (.inr rfl) ?_ | refine zy (.inl rfl) ?_
      simp
    have hlt : i < L.length := by omega
    have q : (i : Int) < (L.length : Int) := by omega
    have hx2 : (L.map Iid.av)[i]? = some (Iid.av L[i]) := by simp [hlt]
    have htk : nxI (L.take (i + 1)) node = nxS node (nxI (L.take i) node) L[i] := by rw [List.take_succ_eq_append_getElem hlt, nxI, List.foldl_append]; rfl
    have hi1 : i + 1 ≤ L.length := hlt
    have h21 : L.length - (i + 1) < L.length - i := by omega
    generalize L[i] = b at *
    generalize nxI (L.take i) node = n1 at *
    clear hlt
    by_cases hn : b.n = node
    · have hn2 : (b.n == node) = true := by simpa using hn
      rw [nxS, if_pos hn] at htk
      repeat (first | ((first | refine zd ?_ | refine zx ?_ | refine zk ?_ | refine zl ?_ | refine zr ?_); refine zq ?_) | refine zs ?_ | refine zh (by simp -implicitDefEqProofs (disch := (first | omega | (simp; done) | fail)) [if_pos, if_neg, wrap_i64, tmod_pos, tdiv_pos, Int.toNat_add, q, hx2, hn2, idl_uni, Iid.av, Iid.c]; rfl) ?_ | refine zb ?_ | refine zo ?_ | refine zt ?_ | refine zf ?_)
      refine ⟨L.length - (i + 1), h21, i + 1, X ++ [.cells b.c], rfl, hi1, ?_⟩
      rw [htk]
      exact st_keep' (by simp [Iid.c]) (by simp [Iid.c])
    · have hn2 : (b.n == node) = false := by simpa using hn
      rw [nxS, if_neg hn] at htk
      repeat (first | ((first | refine zd ?_ | refine zx ?_ | refine zk ?_ | refine zl ?_ | refine zr ?_); refine zq ?_) | refine zs ?_ | refine zh (by simp -implicitDefEqProofs (disch := (first | omega | (simp; done) | fail)) [if_pos, if_neg, wrap_i64, tmod_pos, tdiv_pos, Int.toNat_add, q, hx2, hn2, idl_uni, Iid.av, Iid.c]; rfl) ?_ | refine zb ?_ | refine zo ?_ | refine zt ?_ | refine zf ?_)
      refine ⟨L.length - (i + 1), h21, i + 1, X ++ [.cells b.c], rfl, hi1, ?_⟩
      rw [htk]
      exact st_keep' (by simp [Iid.c]) (by simp [Iid.c])
  · exact ⟨0, [.cells [iv s.1.epoch, .list (s.1.nodes.map iv) .no, .list (s.1.paths.map Entry.av) .no, .list (s.1.sessions.map Sess.av) .no, .list (L.map Iid.av) .no, .map mid]], rfl, by omega, st_keep' (by simp [nxI]) (by simp [nxI])⟩
end Go.Proofs.YtdncoobpdllpkaaGreat.Q

/- Records: the document's example. -/
set_option linter.unusedVariables false
set_option linter.unusedSimpArgs false
set_option maxRecDepth 20000
namespace Go.Proofs.YtdncoobpdllpkaaGreat.Q
open Go Go.Proofs.YtdncoobpdllpkaaGreat.V Go.Proofs.YtdncoobpdllpkaaGreat.N Go.Proofs.YtdncoobpdllpkaaGreat.D Go.RowKit Go.MapKept
attribute [local simp] strip_keys
theorem aops_oneG {P : Program} {E : Env P} {ops : Array Oper} {o : Oper} {r : List Oper} {st : ASt} {K : ASt → Prop} (hg : guardB ops st.s o = .bool true) (k : AOpE E o st fun x h => AOps E ops r ⟨st.n, Slots.put st.n st.s o.dst x, h⟩ K) : AOps E ops (o :: r) st K := by
  unfold AOps
  rw [hg]
  exact k
/-- A look into a map, where it is guarded. -/
theorem aops_lookG {P : Program} {E : Env P} {ops : Array Oper} {o : Oper} {r : List Oper} {n : Nat} {s : Slots} {h : AHeap} {Q : ASt → Prop} {α : Type} [DecidableEq α] {kf : α → AV} {kv : α → Value} {kt mty et : TypeId} {id clock : Nat} {es : Ents α} {k : α} {m kx : Operand} {z : AV} {c : Bool} (K : KeyFor P kt kf kv) (hop : o.op = .lookup mty m kx c) (hg : guardB ops s o = .bool true)
    (hm : P.underlying mty = some (.map kt et)) (hz : ∀ (g : Ghost) (w : World), ∃ v, (zeroValue et).run P w = .ok v w ∧ VRel g z v) (hx : Slots.ev s m = .map id) (hk : Slots.ev s kx = kf k) (ho : h[id]? = some (mapO kf es clock))
    (q : AOps E ops r ⟨n, Slots.put n s o.dst (if c then .tuple [lookE z k es, .bool (keyAt k es).isSome] else lookE z k es), h⟩ Q) : AOps E ops (o :: r) ⟨n, s, h⟩ Q :=
  aops_oneG hg (aope_of_gives (s := fun a => Instr.lookup mty (a.eval m) (a.eval kx) c) (fun a => by simp [execOp, hop]) (fun c => by rw [hop]; simp) fun w0 g w a ra S => by
    have rm := ra.ev m
    have rk := ra.ev kx
    simp only at rm rk
    rw [hx] at rm
    rw [hk] at rk
    exact ⟨_, _, q, look_map K S c hm (hz g) ho rm rk⟩)
theorem zero_inst : ∃ z, ∀ (g : Ghost) (w : World), ∃ v, (zeroValue 62).run Tryz.prog w = .ok v w ∧ VRel g z v := ⟨_, fun g w => ⟨_, Tryz.zeroValue62 w, .ofConst g _⟩⟩
theorem lookE_get (z : AV) (k : Iid) (es : Ents Iid) : lookE z k es = (getE k es).getD z := by
  unfold lookE getE
  cases keyAt k es <;> rfl
theorem Rep.look {es : Ents Iid} {M : List (Iid × Inst)} (r : Rep es M) {k : Iid} {x : Inst} (h : getM k M = some x) (z : AV) : lookE z k es = .agg x.c := by
  rw [lookE_get, r.at_, h]; rfl
def wI : Inst := ⟨1, .zero, .zero, .zero, 0, []⟩
def w1 : Rec := ⟨false, ⟨0, 1, 4⟩, wI, .zero⟩
def w2 : Rec := ⟨true, .zero, .zero, ⟨1, [2], [], []⟩⟩
def x1 : Snap := ⟨0, [1], [], []⟩
def l1 : List UInt8 := [0, 0, 1, 4, 1, 0, 0, 0, 0, 0, 0, 0, 0, 0, 0, 0, 0, 0, 0]
theorem w1_flat : flat w1.t = l1 := by
  simp [w1, wI, l1, Rec.t, Iid.t, Inst.t, Bal.t, Cmd.t, listT, Tk.by, Bal.zero, Cmd.zero, nbI, canB, nbs]
theorem w1_bads : bads w1.t = false := by
  simp [w1, wI, Rec.t, Iid.t, Inst.t, Bal.t, Cmd.t, listT, Tk.bad, Bal.zero, Cmd.zero, canB]
theorem w1_few : w1.Few := ⟨by simp [w1, wI], snap_zero_few, by rw [w1_flat]; simp [l1]⟩
theorem w1_bad : w1.bad = false := rfl
theorem l1_back : whole rdRec .zero l1 = (w1, 0) := by rw [← w1_flat]; exact rec_back w1_bad w1_bads _
theorem l1_fit : Fit l1 := ⟨by decide, by rw [l1_back]; decide⟩
theorem rep1 : repS (x1, []) [l1] = (x1, [(⟨0, 1, 4⟩, wI)]) := by
  have h : repS (x1, []) [l1] = stepS (x1, []) l1 := rfl
  rw [h]
  unfold stepS
  rw [l1_back]
  rfl
theorem add2 : addS (x1, [(⟨0, 1, 4⟩, wI)]) w2 = (⟨1, [2], [], []⟩, []) := rfl
theorem w1c : w1.c = [.bool false, iv 0, iv 1, iv 4, iv 1, iv 0, iv 0, iv 0, iv 0, iv 0, iv 0, iv 0, .str [], .str [], iv 0, iv 0, iv 0, iv 0, .list [] .no, iv 0, .list [] .no, .list [] .no, .list [] .no] := rfl
theorem w2c : w2.c = [.bool true, iv 0, iv 0, iv 0, iv 0, iv 0, iv 0, iv 0, iv 0, iv 0, iv 0, iv 0, .str [], .str [], iv 0, iv 0, iv 0, iv 0, .list [] .no, iv 1, .list [iv 2] .no, .list [] .no, .list [] .no] := rfl
theorem lit (x : Snap) (h : x.sessions = []) (h1 : x.nodes.length ≤ 5) (h2 : x.paths = []) : x.Lit := ⟨by omega, by rw [h2]; simp, by rw [h]; simp, by rw [h]; intro y hy; cases hy⟩
theorem works_ok (h : AHeap) : ACalls Tryz.prog 4 [] h fun r h' => r = .bool true ∧ h' = h := by
  refine acalls_of_awp Tryz.func4 rfl (by simp only [List.length_cons, List.length_nil]; decide) ?_
  simp only [params_cons, params_nil]
  repeat (first | ((first | refine zd ?_ | refine zx ?_ | refine zk ?_ | refine zl ?_ | refine zr ?_); refine zq ?_) | refine zs ?_ | refine zg ?_ | refine zb ?_ | refine zo ?_ | refine zt ?_ | refine zf ?_)
  refine goes_callS (callable_of Tryz.func13) (by simp -implicitDefEqProofs (disch := (first | omega | (simp; done) | fail)) [if_pos, if_neg, wrap_i64, tmod_pos, tdiv_pos, Int.toNat_add, w1c] <;> first | rfl | omega) _ (put_ok w1 w1_few _) ?_
  rintro _ h1 ⟨rfl, rfl⟩
  rw [w1_bad, w1_bads, w1_flat]
  refine goes_eq (by simp -implicitDefEqProofs (disch := (first | omega | (simp; done) | fail)) [if_pos, if_neg, wrap_i64, tmod_pos, tdiv_pos, Int.toNat_add, outV, outB, outE, l1]; rfl) ?_
  repeat (first | ((first | refine zd ?_ | refine zx ?_ | refine zk ?_ | refine zl ?_ | refine zr ?_); refine zq ?_) | refine zs ?_ | refine zh (by simp -implicitDefEqProofs (disch := (first | omega | (simp; done) | fail)) [if_pos, if_neg, wrap_i64, tmod_pos, tdiv_pos, Int.toNat_add, byl]; rfl) ?_ | refine zb ?_ | refine zo ?_ | refine zt ?_ | refine zf ?_)
  refine goes_callS (callable_of Tryz.func6) (by simp -implicitDefEqProofs (disch := (first | omega | (simp; done) | fail)) [if_pos, if_neg, wrap_i64, tmod_pos, tdiv_pos, Int.toNat_add, byl, l1, Snap.c, x1] <;> first | rfl | omega) _ (replay_ok x1 [l1] .no (by decide) (by simpa using l1_fit) _) ?_
  rintro _ _ ⟨X, m, rfl, rfl, hS, hM⟩
  rw [rep1] at *
  refine goes_eq (by simp -implicitDefEqProofs (disch := (first | omega | (simp; done) | fail)) [if_pos, if_neg, wrap_i64, tmod_pos, tdiv_pos, Int.toNat_add, stv, sv, x1]; rfl) ?_
  repeat (first | ((first | refine zd ?_ | refine zx ?_ | refine zk ?_ | refine zl ?_ | refine zr ?_); refine zq ?_) | refine zs ?_ | refine zh (by simp -implicitDefEqProofs (disch := (first | omega | (simp; done) | fail)) [if_pos, if_neg, wrap_i64, tmod_pos, tdiv_pos, Int.toNat_add, stv, sv, x1]; rfl) ?_ | refine zb ?_ | refine zo ?_ | refine zt ?_ | refine zf ?_)
  have hS1 := (hS.app [AObj.cells [iv 0, AV.list [iv 1] Tok.no, AV.list [] Tok.no, AV.list [] Tok.no, AV.list [Iid.av ⟨0, 1, 4⟩] Tok.no, AV.map m]])
  refine goes_callS (callable_of Tryz.func14) (by simp -implicitDefEqProofs (disch := (first | omega | (simp; done) | fail)) [if_pos, if_neg, wrap_i64, tmod_pos, tdiv_pos, Int.toNat_add, stv, sv, w2c, x1] <;> first | rfl | omega) _ (add_ok (x1, [(⟨0, 1, 4⟩, wI)]) w2 m _ (by simpa using hS1) hM (by decide) (by decide) ) ?_
  rintro _ _ ⟨X2, m2, rfl, rfl, hS2⟩
  rw [add2] at *
  refine goes_eq (by simp -implicitDefEqProofs (disch := (first | omega | (simp; done) | fail)) [if_pos, if_neg, wrap_i64, tmod_pos, tdiv_pos, Int.toNat_add, stv, sv]; rfl) ?_
  refine goes_done ?_
  (try simp only [vq, if_true, reduceIte, Nat.reduceEqDiff, reduceCtorEq])
  refine awp_seq ?_
  refine awp_region_at 22 rfl rfl ?_
  refine run_start (goes_eq (by simp -implicitDefEqProofs (disch := (first | omega | (simp; done) | fail)) [if_pos, if_neg, wrap_i64, tmod_pos, tdiv_pos, Int.toNat_add, stv, sv]; rfl) ?_)
  refine goes_callS (callable_of Tryz.func9) (by simp -implicitDefEqProofs (disch := (first | omega | (simp; done) | fail)) [if_pos, if_neg, wrap_i64, tmod_pos, tdiv_pos, Int.toNat_add, stv, sv, x1] <;> first | rfl | omega) _ (next_ok (x1, [(⟨0, 1, 4⟩, wI)]) m 1 (by decide) _) ?_
  rintro _ _ ⟨rfl, rfl⟩
  rw [show nxI (List.map (fun x => x.1) (x1, [((⟨0, 1, 4⟩ : Iid), wI)]).2) 1 = 5 from rfl]
  refine ze ?_
  refine goes_callS (callable_of Tryz.func9) (by simp -implicitDefEqProofs (disch := (first | omega | (simp; done) | fail)) [if_pos, if_neg, wrap_i64, tmod_pos, tdiv_pos, Int.toNat_add, stv, sv, x1] <;> first | rfl | omega) _ (next_ok (x1, [(⟨0, 1, 4⟩, wI)]) m 2 (by decide) _) ?_
  rintro _ _ ⟨rfl, rfl⟩
  rw [show nxI (List.map (fun x => x.1) (x1, [((⟨0, 1, 4⟩ : Iid), wI)]).2) 2 = 0 from rfl]
  refine ze ?_
  refine goes_done ?_
  obtain ⟨z, hz⟩ := zero_inst
  have hS3 := (hS1.app X2).app [AObj.cells [iv 1, AV.list [iv 2] Tok.no, AV.list [] Tok.no, AV.list [] Tok.no, AV.list [] Tok.no, AV.map m2]]
  obtain ⟨es, clock, ho, hR⟩ := hS3
  have hlk : lookE z ⟨0, 1, 4⟩ es = .agg wI.c := hR.look rfl z
  refine aops_lookG (id := m) (es := es) (clock := clock) (k := ⟨0, 1, 4⟩) (z := z) (c := false) I.iid_key rfl (by rfl) Tryz.underlying35 hz rfl rfl (by simpa using ho) ?_
  rw [hlk]
  refine aops_end ?_
  refine run_start (goes_eq (by simp -implicitDefEqProofs (disch := (first | omega | (simp; done) | fail)) [if_pos, if_neg, wrap_i64, tmod_pos, tdiv_pos, Int.toNat_add, wI, Inst.c]; rfl) ?_)
  refine goes_callS (callable_of Tryz.func11) (by simp -implicitDefEqProofs (disch := (first | omega | (simp; done) | fail)) [if_pos, if_neg, wrap_i64, tmod_pos, tdiv_pos, Int.toNat_add, Snap.c] <;> first | rfl | omega) _ (same_ok ⟨1, [2], [], []⟩ ⟨1, [2], [], []⟩ (lit _ rfl (by decide) rfl) (lit _ rfl (by decide) rfl) _) ?_
  rintro _ _ ⟨rfl, rfl⟩
  rw [show decide ((⟨1, [2], [], []⟩ : Snap) = ⟨1, [2], [], []⟩) = true from rfl]
  refine ze ?_
  refine goes_callS (callable_of Tryz.func11) (by simp -implicitDefEqProofs (disch := (first | omega | (simp; done) | fail)) [if_pos, if_neg, wrap_i64, tmod_pos, tdiv_pos, Int.toNat_add, Snap.c, x1] <;> first | rfl | omega) _ (same_ok x1 ⟨1, [2], [], []⟩ (lit _ rfl (by decide) rfl) (lit _ rfl (by decide) rfl) _) ?_
  rintro _ _ ⟨rfl, rfl⟩
  rw [show decide (x1 = ⟨1, [2], [], []⟩) = false from rfl]
  refine ze ?_
  refine goes_done ?_
  (try simp only [vq, if_true, reduceIte, Nat.reduceEqDiff, reduceCtorEq])
  repeat (first | ((first | refine zd ?_ | refine zx ?_ | refine zk ?_ | refine zl ?_ | refine zr ?_); refine zq ?_) | refine zs ?_ | refine zg ?_ | refine zb ?_ | refine zo ?_ | refine zt ?_ | refine zf ?_)
  first | refine zy (.inr rfl) ?_ | refine zy (.inl rfl) ?_
  simp
end Go.Proofs.YtdncoobpdllpkaaGreat.Q

/- Snaps: whether one is looked at. -/
set_option linter.unusedVariables false
set_option linter.unusedSimpArgs false
set_option maxRecDepth 20000
namespace Go.Proofs.YtdncoobpdllpkaaGreat.Q
open Go Go.Proofs.YtdncoobpdllpkaaGreat.V Go.Proofs.YtdncoobpdllpkaaGreat.N Go.Proofs.YtdncoobpdllpkaaGreat.D Go.RowKit
theorem qcut {P : Program} {E : Env P} {x y : Code} {Q : Post} {st : ASt} (J : ASt → Prop) (h1 : AWP E x (Post.then J Q) st) (h2 : ∀ s, J s → AWP E y Q s) : AWP E (.seq x y) Q st :=
  awp_seq (h1.mono fun e s hq => by
    cases e with
    | normal => exact h2 s hq
    | _ => exact hq)
theorem little_ok (x : Snap) (h : AHeap) : ACalls Tryz.prog 5 [.agg x.c] h fun r h' => (∃ b, r = .bool b ∧ (b = true → x.Lit)) ∧ h' = h := by
  have hs := snap_strip x
  refine acalls_of_awp Tryz.func5 rfl (by simp only [List.length_cons, List.length_nil]; decide) ?_
  simp only [params_cons, params_nil]
  refine awp_seq ?_
  refine zg ?_
  refine goes_done ?_
  (try simp only [vq, if_true, reduceIte, Nat.reduceEqDiff, reduceCtorEq])
  refine awp_hard (id := h.length) (by simp -implicitDefEqProofs; rfl) ?_
  simp -implicitDefEqProofs only [Slots.melt, AV.melt, Nat.add_left_cancel_iff, Nat.add_eq_left, Nat.left_eq_add, Nat.reduceEqDiff, reduceIte, Nat.succ_ne_self, Nat.one_ne_zero, Nat.zero_ne_one, List.set_append_right, List.set_append_left, Nat.sub_self, Nat.le_refl, Nat.add_sub_cancel_left, Nat.le_add_right, List.set_cons_zero, List.set_cons_succ]
  simp only [Snap.c]
  refine qcut (fun st => st.le ⟨Tryz.f5.ntmps, [(1, .ref x.c 0), (2, .bool false)], h ++ [.dead]⟩) ?_ ?_
  · repeat (first | ((first | refine zd ?_ | refine zx ?_ | refine zk ?_ | refine zl ?_ | refine zr ?_); refine zq ?_) | refine zs ?_ | refine zg ?_ | refine zb ?_ | refine zo ?_ | refine zt ?_ | refine zf ?_)
    refine awp_loop (fun z st => ∃ (i : Nat), z = x.paths.length - i ∧ i ≤ x.paths.length ∧
      st.le ⟨Tryz.f5.ntmps, [(1, .ref x.c 0), (2, .bool false), (3, .int .i64 i)], h ++ [.dead]⟩) x.paths.length ?_ ?_
    rotate_left
    · rintro z st ⟨i, rfl, hi, hle⟩
      refine awp_le hle ?_
      simp only [Snap.c]
      by_cases h1 : i < x.paths.length
      · obtain ⟨e, he⟩ : ∃ e, x.paths[i]? = some e := ⟨x.paths[i], by rw [List.getElem?_eq_getElem]⟩
        have hx2 : (x.paths.map Entry.av)[i]? = some (Entry.av e) := by simp [he]
        have hi1 : i + 1 ≤ x.paths.length := h1
        have h21 : x.paths.length - (i + 1) < x.paths.length - i := by omega
        have h1B : decide (i < x.paths.length) = true := by simpa using h1
        by_cases h2 : (i : Int) < 60
        · clear h1
          by_cases p1 : (300 : Int) < (e.path.length : Int)
          · repeat (first | ((first | refine zd ?_ | refine zx ?_ | refine zk ?_ | refine zl ?_ | refine zr ?_); refine zq ?_) | refine zs ?_ | refine zh (by simp -implicitDefEqProofs (disch := (first | omega | (simp; done) | fail)) [if_pos, if_neg, wrap_i64, tmod_pos, tdiv_pos, Int.toNat_add, h1B, h2, p1, hx2, entl_uni, Entry.av, Entry.c, AV.cells]; rfl) ?_ | refine zb ?_ | refine zo ?_ | refine zt ?_ | refine zf ?_)
            first | refine zy (.inr rfl) ?_ | refine zy (.inl rfl) ?_
            simp
          by_cases p2 : (300 : Int) < (e.value.length : Int)
          · repeat (first | ((first | refine zd ?_ | refine zx ?_ | refine zk ?_ | refine zl ?_ | refine zr ?_); refine zq ?_) | refine zs ?_ | refine zh (by simp -implicitDefEqProofs (disch := (first | omega | (simp; done) | fail)) [if_pos, if_neg, wrap_i64, tmod_pos, tdiv_pos, Int.toNat_add, h1B, h2, p1, p2, hx2, entl_uni, Entry.av, Entry.c, AV.cells]; rfl) ?_ | refine zb ?_ | refine zo ?_ | refine zt ?_ | refine zf ?_)
            first | refine zy (.inr rfl) ?_ | refine zy (.inl rfl) ?_
            simp
          by_cases p3 : (1099511627776 : Int) < e.version
          · repeat (first | ((first | refine zd ?_ | refine zx ?_ | refine zk ?_ | refine zl ?_ | refine zr ?_); refine zq ?_) | refine zs ?_ | refine zh (by simp -implicitDefEqProofs (disch := (first | omega | (simp; done) | fail)) [if_pos, if_neg, wrap_i64, tmod_pos, tdiv_pos, Int.toNat_add, h1B, h2, p1, p2, p3, hx2, entl_uni, Entry.av, Entry.c, AV.cells]; rfl) ?_ | refine zb ?_ | refine zo ?_ | refine zt ?_ | refine zf ?_)
            first | refine zy (.inr rfl) ?_ | refine zy (.inl rfl) ?_
            simp
          repeat (first | ((first | refine zd ?_ | refine zx ?_ | refine zk ?_ | refine zl ?_ | refine zr ?_); refine zq ?_) | refine zs ?_ | refine zh (by simp -implicitDefEqProofs (disch := (first | omega | (simp; done) | fail)) [if_pos, if_neg, wrap_i64, tmod_pos, tdiv_pos, Int.toNat_add, h1B, h2, p1, p2, p3, hx2, entl_uni, Entry.av, Entry.c, AV.cells]; rfl) ?_ | refine zb ?_ | refine zo ?_ | refine zt ?_ | refine zf ?_)
          exact ⟨x.paths.length - (i + 1), h21, i + 1, rfl, hi1, st_keep' (by simp [Snap.c]) (by simp [Snap.c])⟩
        · clear h1
          repeat (first | ((first | refine zd ?_ | refine zx ?_ | refine zk ?_ | refine zl ?_ | refine zr ?_); refine zq ?_) | refine zs ?_ | refine zh (by simp -implicitDefEqProofs (disch := (first | omega | (simp; done) | fail)) [if_pos, if_neg, wrap_i64, tmod_pos, tdiv_pos, Int.toNat_add, h1B, h2]; rfl) ?_ | refine zb ?_ | refine zo ?_ | refine zt ?_ | refine zf ?_)
          exact st_keep' (by simp [Snap.c]) (by simp [Snap.c])
      · have h1B : decide (i < x.paths.length) = false := by simpa using h1
        clear h1
        repeat (first | ((first | refine zd ?_ | refine zx ?_ | refine zk ?_ | refine zl ?_ | refine zr ?_); refine zq ?_) | refine zs ?_ | refine zh (by simp -implicitDefEqProofs (disch := (first | omega | (simp; done) | fail)) [if_pos, if_neg, wrap_i64, tmod_pos, tdiv_pos, Int.toNat_add, h1B]; rfl) ?_ | refine zb ?_ | refine zo ?_ | refine zt ?_ | refine zf ?_)
        exact st_keep' (by simp [Snap.c]) (by simp [Snap.c])
    · exact ⟨0, rfl, by omega, st_keep' (by simp [Snap.c]) (by simp [Snap.c])⟩
  · intro st hle
    refine awp_le hle ?_
    simp only [Snap.c]
    refine qcut (fun st => (60 ≤ x.sessions.length ∨ ∀ (j : Nat) (e : Sess), x.sessions[j]? = some e → e.reply.names.length ≤ 60) ∧ st.le ⟨Tryz.f5.ntmps, [(1, .ref x.c 0), (2, .bool false)], h ++ [.dead]⟩) ?_ ?_
    · repeat (first | ((first | refine zd ?_ | refine zx ?_ | refine zk ?_ | refine zl ?_ | refine zr ?_); refine zq ?_) | refine zs ?_ | refine zg ?_ | refine zb ?_ | refine zo ?_ | refine zt ?_ | refine zf ?_)
      refine awp_loop (fun z st => ∃ (i : Nat), z = x.sessions.length - i ∧ i ≤ x.sessions.length ∧ (∀ (j : Nat) (e : Sess), j < i → x.sessions[j]? = some e → e.reply.names.length ≤ 60) ∧
        st.le ⟨Tryz.f5.ntmps, [(1, .ref x.c 0), (2, .bool false), (4, .int .i64 i)], h ++ [.dead]⟩) x.sessions.length ?_ ?_
      rotate_left
      · rintro z st ⟨i, rfl, hi, hk, hle⟩
        refine awp_le hle ?_
        simp only [Snap.c]
        by_cases h1 : i < x.sessions.length
        · obtain ⟨e, he⟩ : ∃ e, x.sessions[i]? = some e := ⟨x.sessions[i], by rw [List.getElem?_eq_getElem]⟩
          have hx2 : (x.sessions.map Sess.av)[i]? = some (Sess.av e) := by simp [he]
          have hi1 : i + 1 ≤ x.sessions.length := h1
          have h21 : x.sessions.length - (i + 1) < x.sessions.length - i := by omega
          have h1B : decide (i < x.sessions.length) = true := by simpa using h1
          by_cases h2 : (i : Int) < 60
          · clear h1
            by_cases p1 : (60 : Int) < (e.reply.names.length : Int)
            · repeat (first | ((first | refine zd ?_ | refine zx ?_ | refine zk ?_ | refine zl ?_ | refine zr ?_); refine zq ?_) | refine zs ?_ | refine zh (by simp -implicitDefEqProofs (disch := (first | omega | (simp; done) | fail)) [if_pos, if_neg, wrap_i64, tmod_pos, tdiv_pos, Int.toNat_add, h1B, h2, p1, hx2, sesl_uni, Sess.av, Sess.c, AV.cells]; rfl) ?_ | refine zb ?_ | refine zo ?_ | refine zt ?_ | refine zf ?_)
              first | refine zy (.inr rfl) ?_ | refine zy (.inl rfl) ?_
              simp
            repeat (first | ((first | refine zd ?_ | refine zx ?_ | refine zk ?_ | refine zl ?_ | refine zr ?_); refine zq ?_) | refine zs ?_ | refine zh (by simp -implicitDefEqProofs (disch := (first | omega | (simp; done) | fail)) [if_pos, if_neg, wrap_i64, tmod_pos, tdiv_pos, Int.toNat_add, h1B, h2, p1, hx2, sesl_uni, Sess.av, Sess.c, AV.cells]; rfl) ?_ | refine zb ?_ | refine zo ?_ | refine zt ?_ | refine zf ?_)
            exact ⟨x.sessions.length - (i + 1), h21, i + 1, rfl, hi1, fun j e2 hj h3 => by
              by_cases hji : j = i
              · subst hji; rw [he] at h3; injection h3 with h3; subst h3; omega
              · exact hk j e2 (by omega) h3, st_keep' (by simp [Snap.c]) (by simp [Snap.c])⟩
          · have h3 : 60 ≤ x.sessions.length := by omega
            clear h1
            repeat (first | ((first | refine zd ?_ | refine zx ?_ | refine zk ?_ | refine zl ?_ | refine zr ?_); refine zq ?_) | refine zs ?_ | refine zh (by simp -implicitDefEqProofs (disch := (first | omega | (simp; done) | fail)) [if_pos, if_neg, wrap_i64, tmod_pos, tdiv_pos, Int.toNat_add, h1B, h2]; rfl) ?_ | refine zb ?_ | refine zo ?_ | refine zt ?_ | refine zf ?_)
            exact ⟨.inl h3, st_keep' (by simp [Snap.c]) (by simp [Snap.c])⟩
        · have h1B : decide (i < x.sessions.length) = false := by simpa using h1
          have h3 : ∀ (j : Nat) (e : Sess), x.sessions[j]? = some e → e.reply.names.length ≤ 60 := fun j e he => hk j e (by have := (List.getElem?_eq_some_iff.1 he).1; omega) he
          clear h1
          repeat (first | ((first | refine zd ?_ | refine zx ?_ | refine zk ?_ | refine zl ?_ | refine zr ?_); refine zq ?_) | refine zs ?_ | refine zh (by simp -implicitDefEqProofs (disch := (first | omega | (simp; done) | fail)) [if_pos, if_neg, wrap_i64, tmod_pos, tdiv_pos, Int.toNat_add, h1B]; rfl) ?_ | refine zb ?_ | refine zo ?_ | refine zt ?_ | refine zf ?_)
          exact ⟨.inr h3, st_keep' (by simp [Snap.c]) (by simp [Snap.c])⟩
      · exact ⟨0, rfl, by omega, fun j e hj => by omega, st_keep' (by simp [Snap.c]) (by simp [Snap.c])⟩
    · rintro st ⟨hn, hle⟩
      refine awp_le hle ?_
      simp only [Snap.c]
      by_cases p1 : (x.paths.length : Int) < 60
      · by_cases p2 : (x.sessions.length : Int) < 60
        · by_cases p3 : (x.nodes.length : Int) < 60
          · repeat (first | ((first | refine zd ?_ | refine zx ?_ | refine zk ?_ | refine zl ?_ | refine zr ?_); refine zq ?_) | refine zs ?_ | refine zh (by simp -implicitDefEqProofs (disch := (first | omega | (simp; done) | fail)) [if_pos, if_neg, wrap_i64, tmod_pos, tdiv_pos, Int.toNat_add, p1, p2, p3]; rfl) ?_ | refine zb ?_ | refine zo ?_ | refine zt ?_ | refine zf ?_)
            first | refine zy (.inr rfl) ?_ | refine zy (.inl rfl) ?_
            refine ⟨⟨true, rfl, fun _ => ⟨by omega, by omega, by omega, fun y hy => ?_⟩⟩, rfl⟩
            obtain ⟨j, hj, rfl⟩ := List.getElem_of_mem hy
            rcases hn with hn | hn
            · omega
            · have := hn j _ (List.getElem?_eq_getElem hj); omega
          · repeat (first | ((first | refine zd ?_ | refine zx ?_ | refine zk ?_ | refine zl ?_ | refine zr ?_); refine zq ?_) | refine zs ?_ | refine zh (by simp -implicitDefEqProofs (disch := (first | omega | (simp; done) | fail)) [if_pos, if_neg, wrap_i64, tmod_pos, tdiv_pos, Int.toNat_add, p1, p2, p3]; rfl) ?_ | refine zb ?_ | refine zo ?_ | refine zt ?_ | refine zf ?_)
            first | refine zy (.inr rfl) ?_ | refine zy (.inl rfl) ?_
            simp
        · repeat (first | ((first | refine zd ?_ | refine zx ?_ | refine zk ?_ | refine zl ?_ | refine zr ?_); refine zq ?_) | refine zs ?_ | refine zh (by simp -implicitDefEqProofs (disch := (first | omega | (simp; done) | fail)) [if_pos, if_neg, wrap_i64, tmod_pos, tdiv_pos, Int.toNat_add, p1, p2]; rfl) ?_ | refine zb ?_ | refine zo ?_ | refine zt ?_ | refine zf ?_)
          first | refine zy (.inr rfl) ?_ | refine zy (.inl rfl) ?_
          simp
      · repeat (first | ((first | refine zd ?_ | refine zx ?_ | refine zk ?_ | refine zl ?_ | refine zr ?_); refine zq ?_) | refine zs ?_ | refine zh (by simp -implicitDefEqProofs (disch := (first | omega | (simp; done) | fail)) [if_pos, if_neg, wrap_i64, tmod_pos, tdiv_pos, Int.toNat_add, p1]; rfl) ?_ | refine zb ?_ | refine zo ?_ | refine zt ?_ | refine zf ?_)
        first | refine zy (.inr rfl) ?_ | refine zy (.inl rfl) ?_
        simp
end Go.Proofs.YtdncoobpdllpkaaGreat.Q

/- What a node knows: instances that are the same; what may come of records of few bytes. -/
set_option linter.unusedVariables false
set_option linter.unusedSimpArgs false
set_option maxRecDepth 20000
namespace Go.Proofs.YtdncoobpdllpkaaGreat.Q
open Go Go.Proofs.YtdncoobpdllpkaaGreat.V Go.Proofs.YtdncoobpdllpkaaGreat.N Go.Proofs.YtdncoobpdllpkaaGreat.D Go.RowKit Go.MapKept
theorem row_refl (a : List Iid) (t u : Tok) (ha : a.length ≤ 100000) (h : AHeap) : ACalls Tryz.prog 49 [.list (a.map Iid.av) t, .list (a.map Iid.av) u] h fun r h' => r = .bool true ∧ h' = h := by
  have hu := idl_uni a
  refine acalls_of_awp Tryz.func49 rfl (by simp only [List.length_cons, List.length_nil]; decide) ?_
  simp only [params_cons, params_nil]
  repeat (first | ((first | refine zd ?_ | refine zx ?_ | refine zk ?_ | refine zl ?_ | refine zr ?_); refine zq ?_) | refine zs ?_ | refine zg ?_ | refine zb ?_ | refine zo ?_ | refine zt ?_ | refine zf ?_)
  refine awp_loop (fun z st => ∃ (j : Nat), z = a.length - j ∧ j ≤ a.length ∧ st.le ⟨Tryz.f49.ntmps, [(0, .list (a.map Iid.av) t), (1, .list (a.map Iid.av) u), (5, iv (j : Nat))], h⟩) a.length ?_ ?_
  rotate_left
  rintro z st ⟨j, rfl, hj, hle⟩
  · refine awp_le hle ?_
    clear hle
    by_cases h10 : j = a.length
    · subst h10
      have q5 : ¬ (a.length : Int) < (a.length : Int) := by omega
      repeat (first | ((first | refine zd ?_ | refine zx ?_ | refine zk ?_ | refine zl ?_ | refine zr ?_); refine zq ?_) | refine zs ?_ | refine zh (by simp -implicitDefEqProofs (disch := (first | omega | (simp; done) | fail)) [if_pos, if_neg, wrap_i64, tmod_pos, tdiv_pos, Int.toNat_add, q5]; rfl) ?_ | refine zb ?_ | refine zo ?_ | refine zt ?_ | refine zf ?_)
      first | refine zY (.inr rfl) ?_ | refine zY (.inl rfl) ?_
      simp
    have hlt : j < a.length := by omega
    have q5 : (j : Int) < (a.length : Int) := by omega
    have hx3 : (a.map Iid.av)[j]? = some (Iid.av a[j]) := by simp [hlt]
    have hlt2 : (j : Int) < 100000 := by omega
    have hz : a.length - (j + 1) < a.length - j := by omega
    have hj2 : j + 1 ≤ a.length := by omega
    repeat (first | ((first | refine zd ?_ | refine zx ?_ | refine zk ?_ | refine zl ?_ | refine zr ?_); refine zq ?_) | refine zs ?_ | refine zh (by simp -implicitDefEqProofs (disch := (first | omega | (simp; done) | fail)) [if_pos, if_neg, wrap_i64, tmod_pos, tdiv_pos, Int.toNat_add, q5]; rfl) ?_ | refine zb ?_ | refine zo ?_ | refine zt ?_ | refine zf ?_)
    generalize a[j] = k at *
    clear hlt
    refine awp_draw (.q 0 (.q 1 (.q 2 (.q 3 (.q 4 (.q 5 (.q 6 (.q 7 (.q 8 (.done)))))))))) (by kernel_rfl) (by kernel_rfl) (tree_start (goesT_eq (by simp -implicitDefEqProofs (disch := (first | omega | (simp; done) | fail)) [if_pos, if_neg, wrap_i64, tmod_pos, tdiv_pos, Int.toNat_add, hx3, hu, Iid.av, Iid.c, q5]; rfl) ?_))
    refine goesT_done ?_
    (try simp only [vq, if_true, reduceIte, Nat.reduceEqDiff, reduceCtorEq])
    repeat (first | ((first | refine zd ?_ | refine zx ?_ | refine zk ?_ | refine zl ?_ | refine zr ?_); refine zq ?_) | refine zs ?_ | refine zg ?_ | refine zb ?_ | refine zo ?_ | refine zt ?_ | refine zf ?_)
    exact ⟨a.length - (j + 1), hz, j + 1, rfl, hj2, st_keep' (by simp []) (by simp [])⟩
  · exact ⟨0, rfl, by omega, st_keep' (by simp []) (by simp [])⟩
theorem inst_refl (x : Inst) (hx : x.deps.length ≤ 100000) (h : AHeap) : ACalls Tryz.prog 21 [.agg x.c, .agg x.c] h fun r h' => r = .bool true ∧ h' = h := by
  unfold Inst.c
  refine acalls_of_awp Tryz.func21 rfl (by simp only [List.length_cons, List.length_nil]; decide) ?_
  simp only [params_cons, params_nil]
  repeat (first | ((first | refine zd ?_ | refine zx ?_ | refine zk ?_ | refine zl ?_ | refine zr ?_); refine zq ?_) | refine zs ?_ | refine zh (by simp -implicitDefEqProofs (disch := (first | omega | (simp; done) | fail)) [if_pos, if_neg, wrap_i64, tmod_pos, tdiv_pos, Int.toNat_add, idv_s]; rfl) ?_ | refine zb ?_ | refine zo ?_ | refine zt ?_ | refine zf ?_)
  refine goes_callS (callable_of Tryz.func49) (by simp -implicitDefEqProofs (disch := (first | omega | (simp; done) | fail)) [if_pos, if_neg, wrap_i64, tmod_pos, tdiv_pos, Int.toNat_add, idv_s] <;> first | rfl | omega) _ (row_refl x.deps .no .no hx _) ?_
  rintro _ _ ⟨rfl, rfl⟩
  refine ze ?_
  repeat (first | ((first | refine zd ?_ | refine zx ?_ | refine zk ?_ | refine zl ?_ | refine zr ?_); refine zq ?_) | refine zs ?_ | refine zg ?_ | refine zb ?_ | refine zo ?_ | refine zt ?_ | refine zf ?_)
  first | refine zy (.inr rfl) ?_ | refine zy (.inl rfl) ?_
  simp
theorem len_wts {α : Type} {t : α → List Tk} (h : ∀ x, 1 ≤ wts (t x)) (l : List α) : l.length ≤ wts (listT t l) := by
  have := len_list h l
  simp only [listT, wts_cons, Tk.wt]
  omega
/-- What few bytes tell is little. -/
structure Small (r : Rec) : Prop where
  lit : r.snap.Lit
  deps : r.inst.deps.length ≤ 100000
theorem snap_lit {x : Snap} (h : wts x.t ≤ 100000) : x.Lit := by
  simp only [Snap.t, wts_cons, wts_app, Tk.wt] at h
  have h1 := len_wts (t := numT) (fun x => by simp only [numT, wts_cons, Tk.wt]; omega) x.nodes
  have h2 := len_wts (t := Entry.t) (fun x => by simp only [Entry.t, wts_cons, Tk.wt]; omega) x.paths
  have h3 := len_wts (t := Sess.t) (fun x => by simp only [Sess.t, wts_cons, Tk.wt]; omega) x.sessions
  refine ⟨by omega, by omega, by omega, fun y hy => ?_⟩
  have h4 : wts y.t ≤ wts (x.sessions.flatMap Sess.t) := by
    obtain ⟨i, hi, rfl⟩ := List.getElem_of_mem hy
    have := flatMap_split Sess.t x.sessions i _ (List.getElem?_eq_getElem hi)
    rw [this, wts_app, wts_app]; omega
  have h5 := len_wts (t := textT) (fun x => by simp only [textT, wts_cons, Tk.wt]; omega) y.reply.names
  simp only [Sess.t, Reply.t, wts_cons, Tk.wt] at h4
  simp only [listT, wts_cons, Tk.wt] at h h4 h5
  omega
theorem small_of (b : List UInt8) (hb : b.length ≤ 100000) : Small (whole rdRec .zero b).1 := by
  have hz : Small .zero := ⟨⟨by simp [Rec.zero, Snap.zero], by simp [Rec.zero, Snap.zero], by simp [Rec.zero, Snap.zero], fun y hy => by simp [Rec.zero, Snap.zero] at hy⟩, by simp [Rec.zero, Inst.zero]⟩
  unfold whole
  split
  · exact hz
  · rename_i p hp
    split
    · obtain ⟨x, r⟩ := p
      obtain ⟨h1, h2, h3⟩ := rec_read hp
      have hw := wts_flat _ h2
      have hl : (flat x.t).length ≤ 100000 := by rw [h3] at hb; simp at hb; omega
      simp only
      unfold Rec.bad at h1
      unfold Rec.t at hw hl
      cases hs : x.sl with
      | true =>
        rw [hs] at hw hl h1
        simp only [if_true, wts_cons, Tk.wt] at hw hl h1
        have hi : x.inst = .zero := by
          have h4 : x.id.zB = true ∧ x.inst.zB = true := by simpa using h1
          exact inst_z.1 h4.2
        exact ⟨snap_lit (by omega), by rw [hi]; simp [Inst.zero]⟩
      | false =>
        rw [hs] at hw hl h1
        simp only [Bool.false_eq_true, if_false, wts_cons, wts_app, Tk.wt] at hw hl h1
        have hi : x.snap = .zero := snap_z.1 (by simpa using h1)
        have h5 := len_wts (t := Iid.t) (fun x => by simp only [Iid.t, wts_cons, Tk.wt]; omega) x.inst.deps
        have h6 : wts (listT Iid.t x.inst.deps) ≤ wts x.inst.t := by simp only [Inst.t, wts_cons, wts_app, Tk.wt]; omega
        exact ⟨by rw [hi]; exact hz.lit, by omega⟩
    · exact hz
end Go.Proofs.YtdncoobpdllpkaaGreat.Q

/- The law RecordParts: what is kept in two parts is known as all of it. -/
set_option linter.unusedVariables false
set_option linter.unusedSimpArgs false
set_option maxRecDepth 20000
namespace Go.Proofs.YtdncoobpdllpkaaGreat.Q
open Go Go.Proofs.YtdncoobpdllpkaaGreat.V Go.Proofs.YtdncoobpdllpkaaGreat.N Go.Proofs.YtdncoobpdllpkaaGreat.D Go.RowKit Go.MapKept Go.WideShapes
attribute [local simp] strip_keys
structure SFit (s : SM) : Prop where
  lit : s.1.Lit
  deps : ∀ q ∈ s.2, q.2.deps.length ≤ 100000
theorem putM_mem {k : Iid} {x : Inst} {q : Iid × Inst} : ∀ {M : List (Iid × Inst)}, q ∈ putM M k x → q = (k, x) ∨ q ∈ M
  | [], h => by simpa [putM] using h
  | p :: M, h => by
    unfold putM at h
    split at h
    · simp at h; rcases h with h | h <;> simp [h]
    · split at h
      · simpa using h
      · simp at h
        rcases h with h | h
        · simp [h]
        · rcases putM_mem h with h | h <;> simp [h]
theorem SFit.add {s : SM} {r : Rec} (f : SFit s) (hr : Small r) : SFit (addS s r) := by
  unfold addS
  split
  · split
    · exact ⟨hr.lit, fun q hq => by simp at hq⟩
    · exact f
  · split
    · refine ⟨f.lit, fun q hq => ?_⟩
      rcases putM_mem hq with rfl | hq
      · exact hr.deps
      · exact f.deps q hq
    · exact f
theorem SFit.step {s : SM} {b : List UInt8} (f : SFit s) (hb : b.length ≤ 100000) : SFit (stepS s b) := by
  unfold stepS
  split
  · exact f.add (small_of b hb)
  · exact f
theorem fit_of {b : List UInt8} (hb : b.length ≤ 100000) : Fit b := ⟨by omega, (small_of b hb).lit.nodes⟩
theorem stepS_len (s : SM) (b : List UInt8) : (stepS s b).2.length ≤ s.2.length + 1 := by
  unfold stepS
  split
  · exact addS_len _ _
  · omega
theorem stepS_ris {s : SM} {b : List UInt8} (h : MRis s.2) : MRis (stepS s b).2 := by
  unfold stepS
  split
  · exact addS_ris h
  · exact h
theorem repS_len (s : SM) : ∀ ls : List (List UInt8), (repS s ls).2.length ≤ s.2.length + ls.length := by
  intro ls
  induction ls generalizing s with
  | nil => simp [repS]
  | cons b ls ih =>
    have h1 := ih (stepS s b)
    have h2 := stepS_len s b
    have : repS s (b :: ls) = repS (stepS s b) ls := rfl
    rw [this, List.length_cons]
    omega
theorem repS_fit {s : SM} (f : SFit s) : ∀ ls : List (List UInt8), (∀ b ∈ ls, b.length ≤ 100000) → SFit (repS s ls) := by
  intro ls hl
  induction ls generalizing s with
  | nil => exact f
  | cons b ls ih => exact ih (f.step (hl b (by simp))) fun c hc => hl c (by simp [hc])
theorem aats_look {P : Program} {ops : Array Oper} {n i : Nat} {s : Slots} {h : AHeap} {K : Slots → AHeap → Prop} {o : Oper} {α : Type} [DecidableEq α] {kf : α → AV} {kv : α → Value} {kt mty et : TypeId} {id clock : Nat} {es : Ents α} {k : α} {m kx : Operand} {z : AV} (K0 : KeyFor P kt kf kv)
    (ho : ops[i]? = some o) (hop : o.op = .lookup mty m kx false) (hg : guardB ops s o = .bool true) (hm : P.underlying mty = some (.map kt et)) (hz : ∀ (g : Ghost) (w : World), ∃ v, (zeroValue et).run P w = .ok v w ∧ VRel g z v) (hx : Slots.ev s m = .map id) (hk : Slots.ev s kx = kf k) (hoo : h[id]? = some (mapO kf es clock))
    (k0 : K (Slots.put n s o.dst (lookE z k es)) h) : AAtS P ops n i s h K := by
  unfold AAtS
  rw [ho]
  simp only [hg, wantedThen, if_true]
  intro w0 g w a r S next Q hn
  have rm := r.ev m
  have rk := r.ev kx
  simp only at rm rk
  rw [hx] at rm
  rw [hk] at rk
  obtain ⟨v, w', g', hr, l, hv, S'⟩ := look_map (P := P) K0 S false hm (hz g) hoo rm rk
  unfold Oper.wp
  have hex : execOp a.eval o = (do let r ← Instr.lookup mty (a.eval m) (a.eval kx) false; pure (Next.value r) : Sem Next) := by simp [execOp, hop]
  rw [hex, Sem.run_bind, hr]
  exact hn v w' g' _ h l hv S' k0
theorem set_behind (h Z : AHeap) (j : Nat) (o : AObj) : List.set (h ++ Z) (h.length + j) o = h ++ List.set Z j o := by
  have h1 : ∀ (a b : List AObj), List.set (a ++ b) (a.length + j) o = a ++ List.set b j o := fun a b => by rw [List.set_append_right _ _ (by omega), Nat.add_sub_cancel_left]
  exact h1 h Z
theorem Stt.upd {h : AHeap} {s : SM} {mid k : Nat} {o o' : AObj} (hs : Stt h s mid) (hk : h[k]? = some o) (hn : ∀ es c, o ≠ .map es c) : Stt (h.set k o') s mid := by
  obtain ⟨es, c, ho, r⟩ := hs
  refine ⟨es, c, ?_, r⟩
  have : k ≠ mid := fun e => by subst e; rw [hk] at ho; injection ho with ho; exact hn _ _ ho
  rw [List.getElem?_set_ne this]
  exact ho
theorem getM_at {M : List (Iid × Inst)} (h : MRis M) {p : Iid × Inst} (hp : p ∈ M) : getM p.1 M = some p.2 := by
  induction M with
  | nil => cases hp
  | cons q M ih =>
    obtain ⟨h1, h2⟩ := List.pairwise_cons.1 (show List.Pairwise _ (q.1 :: M.map (·.1)) from h)
    rcases List.mem_cons.1 hp with rfl | hp
    · simp [getM]
    · have h3 := h1 p.1 (List.mem_map.2 ⟨p, hp, rfl⟩)
      have h4 : ¬ q.1 = p.1 := fun e => by rw [e] at h3; simp [I.lessB] at h3
      have := ih h2 hp
      unfold getM at this ⊢
      simpa [h4] using this
end Go.Proofs.YtdncoobpdllpkaaGreat.Q
