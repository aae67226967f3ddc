import Derived.Test.YtdncoobpdllpkaaQB
import Derived.Test.YtdncoobpdllpkaaDD
import Derived.Test.YtdncoobpdllpkaaV29
/- What a node knows: instances that are the same; what may come of records of few bytes. -/
set_option linter.unusedVariables false
set_option linter.unusedSimpArgs false
set_option maxRecDepth 20000
namespace Go.Proofs.Ytdncoobpdllpkaa.Q
open Go Go.Proofs.Ytdncoobpdllpkaa.V Go.Proofs.Ytdncoobpdllpkaa.N Go.Proofs.Ytdncoobpdllpkaa.D Go.RowKit Go.MapKept
theorem row_refl (a : List Iid) (t u : Tok) (ha : a.length ≤ 100000) (h : AHeap) : ACalls Try.prog 29 [.list (a.map Iid.av) t, .list (a.map Iid.av) u] h fun r h' => r = .bool true ∧ h' = h := by
  have hu := idl_uni a
  refine acalls_of_awp Try.func29 rfl (by simp only [List.length_cons, List.length_nil]; decide) ?_
  simp only [params_cons, params_nil]
  repeat (first | ((first | refine zd ?_ | refine zx ?_ | refine zk ?_ | refine zl ?_ | refine zr ?_); refine zq ?_) | refine zs ?_ | refine zg ?_ | refine zb ?_ | refine zo ?_ | refine zt ?_ | refine zf ?_)
  refine awp_loop (fun z st => ∃ (j : Nat), z = a.length - j ∧ j ≤ a.length ∧ st.le ⟨Try.f29.ntmps, [(0, .list (a.map Iid.av) t), (1, .list (a.map Iid.av) u), (5, iv (j : Nat))], h⟩) a.length ?_ ?_
  rotate_left
  rintro z st ⟨j, rfl, hj, hle⟩
  · refine awp_le hle ?_
    clear hle
    by_cases h10 : j = a.length
    · subst h10
      have q5 : ¬ (a.length : Int) < (a.length : Int) := by omega
      repeat (first | ((first | refine zd ?_ | refine zx ?_ | refine zk ?_ | refine zl ?_ | refine zr ?_); refine zq ?_) | refine zs ?_ | refine zh (by simp -implicitDefEqProofs (disch := (first | omega | (simp; done) | fail)) [if_pos, if_neg, wrap_i64, tmod_pos, tdiv_pos, Int.toNat_add, q5]; rfl) ?_ | refine zb ?_ | refine zo ?_ | refine zt ?_ | refine zf ?_)
      first | refine zY (.inr rfl) ?_ | refine zY (.inl rfl) ?_
      simp
    have hlt : j < a.length := by omega
    have q5 : (j : Int) < (a.length : Int) := by omega
    have hx3 : (a.map Iid.av)[j]? = some (Iid.av a[j]) := by simp [hlt]
    have hlt2 : (j : Int) < 100000 := by omega
    have hz : a.length - (j + 1) < a.length - j := by omega
    have hj2 : j + 1 ≤ a.length := by omega
    repeat (first | ((first | refine zd ?_ | refine zx ?_ | refine zk ?_ | refine zl ?_ | refine zr ?_); refine zq ?_) | refine zs ?_ | refine zh (by simp -implicitDefEqProofs (disch := (first | omega | (simp; done) | fail)) [if_pos, if_neg, wrap_i64, tmod_pos, tdiv_pos, Int.toNat_add, q5]; rfl) ?_ | refine zb ?_ | refine zo ?_ | refine zt ?_ | refine zf ?_)
    generalize a[j] = k at *
    clear hlt
    refine awp_draw (.q 0 (.q 1 (.q 2 (.q 3 (.q 4 (.q 5 (.q 6 (.q 7 (.q 8 (.done)))))))))) (by kernel_rfl) (by kernel_rfl) (tree_start (goesT_eq (by simp -implicitDefEqProofs (disch := (first | omega | (simp; done) | fail)) [if_pos, if_neg, wrap_i64, tmod_pos, tdiv_pos, Int.toNat_add, hx3, hu, Iid.av, Iid.c, q5]; rfl) ?_))
    refine goesT_done ?_
    (try simp only [vq, if_true, reduceIte, Nat.reduceEqDiff, reduceCtorEq])
    repeat (first | ((first | refine zd ?_ | refine zx ?_ | refine zk ?_ | refine zl ?_ | refine zr ?_); refine zq ?_) | refine zs ?_ | refine zg ?_ | refine zb ?_ | refine zo ?_ | refine zt ?_ | refine zf ?_)
    exact ⟨a.length - (j + 1), hz, j + 1, rfl, hj2, st_keep' (by simp []) (by simp [])⟩
  · exact ⟨0, rfl, by omega, st_keep' (by simp []) (by simp [])⟩
theorem inst_refl (x : Inst) (hx : x.deps.length ≤ 100000) (h : AHeap) : ACalls Try.prog 11 [.agg x.c, .agg x.c] h fun r h' => r = .bool true ∧ h' = h := by
  unfold Inst.c
  refine acalls_of_awp Try.func11 rfl (by simp only [List.length_cons, List.length_nil]; decide) ?_
  simp only [params_cons, params_nil]
  repeat (first | ((first | refine zd ?_ | refine zx ?_ | refine zk ?_ | refine zl ?_ | refine zr ?_); refine zq ?_) | refine zs ?_ | refine zh (by simp -implicitDefEqProofs (disch := (first | omega | (simp; done) | fail)) [if_pos, if_neg, wrap_i64, tmod_pos, tdiv_pos, Int.toNat_add, idv_s]; rfl) ?_ | refine zb ?_ | refine zo ?_ | refine zt ?_ | refine zf ?_)
  refine goes_callS (callable_of Try.func29) (by simp -implicitDefEqProofs (disch := (first | omega | (simp; done) | fail)) [if_pos, if_neg, wrap_i64, tmod_pos, tdiv_pos, Int.toNat_add, idv_s] <;> first | rfl | omega) _ (row_refl x.deps .no .no hx _) ?_
  rintro _ _ ⟨rfl, rfl⟩
  refine ze ?_
  repeat (first | ((first | refine zd ?_ | refine zx ?_ | refine zk ?_ | refine zl ?_ | refine zr ?_); refine zq ?_) | refine zs ?_ | refine zg ?_ | refine zb ?_ | refine zo ?_ | refine zt ?_ | refine zf ?_)
  first | refine zy (.inr rfl) ?_ | refine zy (.inl rfl) ?_
  simp
theorem len_wts {α : Type} {t : α → List Tk} (h : ∀ x, 1 ≤ wts (t x)) (l : List α) : l.length ≤ wts (listT t l) := by
  have := len_list h l
  simp only [listT, wts_cons, Tk.wt]
  omega
/-- What few bytes tell is little. -/
structure Small (r : Rec) : Prop where
  lit : r.snap.Lit
  deps : r.inst.deps.length ≤ 100000
theorem snap_lit {x : Snap} (h : wts x.t ≤ 100000) : x.Lit := by
  simp only [Snap.t, wts_cons, wts_app, Tk.wt] at h
  have h1 := len_wts (t := numT) (fun x => by simp only [numT, wts_cons, Tk.wt]; omega) x.nodes
  have h2 := len_wts (t := Entry.t) (fun x => by simp only [Entry.t, wts_cons, Tk.wt]; omega) x.paths
  have h3 := len_wts (t := Sess.t) (fun x => by simp only [Sess.t, wts_cons, Tk.wt]; omega) x.sessions
  refine ⟨by omega, by omega, by omega, fun y hy => ?_⟩
  have h4 : wts y.t ≤ wts (x.sessions.flatMap Sess.t) := by
    obtain ⟨i, hi, rfl⟩ := List.getElem_of_mem hy
    have := flatMap_split Sess.t x.sessions i _ (List.getElem?_eq_getElem hi)
    rw [this, wts_app, wts_app]; omega
  have h5 := len_wts (t := textT) (fun x => by simp only [textT, wts_cons, Tk.wt]; omega) y.reply.names
  simp only [Sess.t, Reply.t, wts_cons, Tk.wt] at h4
  simp only [listT, wts_cons, Tk.wt] at h h4 h5
  omega
theorem small_of (b : List UInt8) (hb : b.length ≤ 100000) : Small (whole rdRec .zero b).1 := by
  have hz : Small .zero := ⟨⟨by simp [Rec.zero, Snap.zero], by simp [Rec.zero, Snap.zero], by simp [Rec.zero, Snap.zero], fun y hy => by simp [Rec.zero, Snap.zero] at hy⟩, by simp [Rec.zero, Inst.zero]⟩
  unfold whole
  split
  · exact hz
  · rename_i p hp
    split
    · obtain ⟨x, r⟩ := p
      obtain ⟨h1, h2, h3⟩ := rec_read hp
      have hw := wts_flat _ h2
      have hl : (flat x.t).length ≤ 100000 := by rw [h3] at hb; simp at hb; omega
      simp only
      unfold Rec.bad at h1
      unfold Rec.t at hw hl
      cases hs : x.sl with
      | true =>
        rw [hs] at hw hl h1
        simp only [if_true, wts_cons, Tk.wt] at hw hl h1
        have hi : x.inst = .zero := by
          have h4 : x.id.zB = true ∧ x.inst.zB = true := by simpa using h1
          exact inst_z.1 h4.2
        exact ⟨snap_lit (by omega), by rw [hi]; simp [Inst.zero]⟩
      | false =>
        rw [hs] at hw hl h1
        simp only [Bool.false_eq_true, if_false, wts_cons, wts_app, Tk.wt] at hw hl h1
        have hi : x.snap = .zero := snap_z.1 (by simpa using h1)
        have h5 := len_wts (t := Iid.t) (fun x => by simp only [Iid.t, wts_cons, Tk.wt]; omega) x.inst.deps
        have h6 : wts (listT Iid.t x.inst.deps) ≤ wts x.inst.t := by simp only [Inst.t, wts_cons, wts_app, Tk.wt]; omega
        exact ⟨by rw [hi]; exact hz.lit, by omega⟩
    · exact hz
end Go.Proofs.Ytdncoobpdllpkaa.Q

/- The law RecordParts: what is kept in two parts is known as all of it. -/
set_option linter.unusedVariables false
set_option linter.unusedSimpArgs false
set_option maxRecDepth 20000
namespace Go.Proofs.Ytdncoobpdllpkaa.Q
open Go Go.Proofs.Ytdncoobpdllpkaa.V Go.Proofs.Ytdncoobpdllpkaa.N Go.Proofs.Ytdncoobpdllpkaa.D Go.RowKit Go.MapKept Go.WideShapes
attribute [local simp] strip_keys
structure SFit (s : SM) : Prop where
  lit : s.1.Lit
  deps : ∀ q ∈ s.2, q.2.deps.length ≤ 100000
theorem putM_mem {k : Iid} {x : Inst} {q : Iid × Inst} : ∀ {M : List (Iid × Inst)}, q ∈ putM M k x → q = (k, x) ∨ q ∈ M
  | [], h => by simpa [putM] using h
  | p :: M, h => by
    unfold putM at h
    split at h
    · simp at h; rcases h with h | h <;> simp [h]
    · split at h
      · simpa using h
      · simp at h
        rcases h with h | h
        · simp [h]
        · rcases putM_mem h with h | h <;> simp [h]
theorem SFit.add {s : SM} {r : Rec} (f : SFit s) (hr : Small r) : SFit (addS s r) := by
  unfold addS
  split
  · split
    · exact ⟨hr.lit, fun q hq => by simp at hq⟩
    · exact f
  · split
    · refine ⟨f.lit, fun q hq => ?_⟩
      rcases putM_mem hq with rfl | hq
      · exact hr.deps
      · exact f.deps q hq
    · exact f
theorem SFit.step {s : SM} {b : List UInt8} (f : SFit s) (hb : b.length ≤ 100000) : SFit (stepS s b) := by
  unfold stepS
  split
  · exact f.add (small_of b hb)
  · exact f
theorem fit_of {b : List UInt8} (hb : b.length ≤ 100000) : Fit b := ⟨by omega, (small_of b hb).lit.nodes⟩
theorem stepS_len (s : SM) (b : List UInt8) : (stepS s b).2.length ≤ s.2.length + 1 := by
  unfold stepS
  split
  · exact addS_len _ _
  · omega
theorem stepS_ris {s : SM} {b : List UInt8} (h : MRis s.2) : MRis (stepS s b).2 := by
  unfold stepS
  split
  · exact addS_ris h
  · exact h
theorem repS_len (s : SM) : ∀ ls : List (List UInt8), (repS s ls).2.length ≤ s.2.length + ls.length := by
  intro ls
  induction ls generalizing s with
  | nil => simp [repS]
  | cons b ls ih =>
    have h1 := ih (stepS s b)
    have h2 := stepS_len s b
    have : repS s (b :: ls) = repS (stepS s b) ls := rfl
    rw [this, List.length_cons]
    omega
theorem repS_fit {s : SM} (f : SFit s) : ∀ ls : List (List UInt8), (∀ b ∈ ls, b.length ≤ 100000) → SFit (repS s ls) := by
  intro ls hl
  induction ls generalizing s with
  | nil => exact f
  | cons b ls ih => exact ih (f.step (hl b (by simp))) fun c hc => hl c (by simp [hc])
theorem aats_look {P : Program} {ops : Array Oper} {n i : Nat} {s : Slots} {h : AHeap} {K : Slots → AHeap → Prop} {o : Oper} {α : Type} [DecidableEq α] {kf : α → AV} {kv : α → Value} {kt mty et : TypeId} {id clock : Nat} {es : Ents α} {k : α} {m kx : Operand} {z : AV} (K0 : KeyFor P kt kf kv)
    (ho : ops[i]? = some o) (hop : o.op = .lookup mty m kx false) (hg : guardB ops s o = .bool true) (hm : P.underlying mty = some (.map kt et)) (hz : ∀ (g : Ghost) (w : World), ∃ v, (zeroValue et).run P w = .ok v w ∧ VRel g z v) (hx : Slots.ev s m = .map id) (hk : Slots.ev s kx = kf k) (hoo : h[id]? = some (mapO kf es clock))
    (k0 : K (Slots.put n s o.dst (lookE z k es)) h) : AAtS P ops n i s h K := by
  unfold AAtS
  rw [ho]
  simp only [hg, wantedThen, if_true]
  intro w0 g w a r S next Q hn
  have rm := r.ev m
  have rk := r.ev kx
  simp only at rm rk
  rw [hx] at rm
  rw [hk] at rk
  obtain ⟨v, w', g', hr, l, hv, S'⟩ := look_map (P := P) K0 S false hm (hz g) hoo rm rk
  unfold Oper.wp
  have hex : execOp a.eval o = (do let r ← Instr.lookup mty (a.eval m) (a.eval kx) false; pure (Next.value r) : Sem Next) := by simp [execOp, hop]
  rw [hex, Sem.run_bind, hr]
  exact hn v w' g' _ h l hv S' k0
theorem set_behind (h Z : AHeap) (j : Nat) (o : AObj) : List.set (h ++ Z) (h.length + j) o = h ++ List.set Z j o := by
  have h1 : ∀ (a b : List AObj), List.set (a ++ b) (a.length + j) o = a ++ List.set b j o := fun a b => by rw [List.set_append_right _ _ (by omega), Nat.add_sub_cancel_left]
  exact h1 h Z
theorem set_front (Z Y : AHeap) (j : Nat) (o : AObj) (hj : j < Z.length) : List.set (Z ++ Y) j o = List.set Z j o ++ Y := by
  have h1 : ∀ (a b : List AObj), j < a.length → List.set (a ++ b) j o = List.set a j o ++ b := fun a b h => List.set_append_left _ _ h
  exact h1 Z Y hj
theorem get_front (Z Y : AHeap) (j : Nat) (o : AObj) (hj : j < Z.length) : (List.set Z j o ++ Y)[j]? = some o := by
  have h1 : ∀ (a b : List AObj), j < a.length → (List.set a j o ++ b)[j]? = some o := fun a b h => by
    rw [List.getElem?_append_left (by simpa using h)]
    exact List.getElem?_set_self h
  exact h1 Z Y hj
theorem Stt.upd {h : AHeap} {s : SM} {mid k : Nat} {o o' : AObj} (hs : Stt h s mid) (hk : h[k]? = some o) (hn : ∀ es c, o ≠ .map es c) : Stt (h.set k o') s mid := by
  obtain ⟨es, c, ho, r⟩ := hs
  refine ⟨es, c, ?_, r⟩
  have : k ≠ mid := fun e => by subst e; rw [hk] at ho; injection ho with ho; exact hn _ _ ho
  rw [List.getElem?_set_ne this]
  exact ho
theorem getM_at {M : List (Iid × Inst)} (h : MRis M) {p : Iid × Inst} (hp : p ∈ M) : getM p.1 M = some p.2 := by
  induction M with
  | nil => cases hp
  | cons q M ih =>
    obtain ⟨h1, h2⟩ := List.pairwise_cons.1 (show List.Pairwise _ (q.1 :: M.map (·.1)) from h)
    rcases List.mem_cons.1 hp with rfl | hp
    · simp [getM]
    · have h3 := h1 p.1 (List.mem_map.2 ⟨p, hp, rfl⟩)
      have h4 : ¬ q.1 = p.1 := fun e => by rw [e] at h3; simp [I.lessB] at h3
      have := ih h2 hp
      unfold getM at this ⊢
      simpa [h4] using this
set_option maxHeartbeats 4000000 in
theorem recordParts (x : Snap) (la lb : List (List UInt8)) (ta tb : Tok) (h : AHeap) : ACalls Try.prog 3 [.agg x.c, .list (la.map .str) ta, .list (lb.map .str) tb] h fun r h' => r = .bool true ∧ h' = h := by
  have sx := snap_strip x
  refine acalls_of_awp Try.func3 rfl (by simp only [List.length_cons, List.length_nil]; decide) ?_
  simp only [params_cons, params_nil]
  refine awp_seq ?_
  refine zg ?_
  refine goes_done ?_
  (try simp only [vq, if_true, reduceIte, Nat.reduceEqDiff, reduceCtorEq])
  refine awp_hard (id := h.length) (by simp -implicitDefEqProofs; rfl) ?_
  simp -implicitDefEqProofs only [Slots.melt, AV.melt, Nat.add_left_cancel_iff, Nat.add_eq_left, Nat.left_eq_add, Nat.reduceEqDiff, reduceIte, Nat.succ_ne_self, Nat.one_ne_zero, Nat.zero_ne_one, List.set_append_right, List.set_append_left, Nat.sub_self, Nat.le_refl, Nat.add_sub_cancel_left, Nat.le_add_right, List.set_cons_zero, List.set_cons_succ]
  simp only [Snap.c]
  repeat (first | ((first | refine zd ?_ | refine zx ?_ | refine zk ?_ | refine zl ?_ | refine zr ?_); refine zq ?_) | refine zs ?_ | refine zg ?_ | refine zb ?_ | refine zo ?_ | refine zt ?_ | refine zf ?_)
  refine zp (callable_of Try.func5) _ (works_ok _) ?_
  rintro _ _ ⟨rfl, rfl⟩
  refine ze ?_
  repeat (first | ((first | refine zd ?_ | refine zx ?_ | refine zk ?_ | refine zl ?_ | refine zr ?_); refine zq ?_) | refine zs ?_ | refine zh (by simp -implicitDefEqProofs (disch := (first | omega | (simp; done) | fail)) [if_pos, if_neg, wrap_i64, tmod_pos, tdiv_pos, Int.toNat_add, entv_s, sesv_s, iv_s]; rfl) ?_ | refine zb ?_ | refine zo ?_ | refine zt ?_ | refine zf ?_)
  refine goes_callS (callable_of Try.func6) (by simp -implicitDefEqProofs (disch := (first | omega | (simp; done) | fail)) [if_pos, if_neg, wrap_i64, tmod_pos, tdiv_pos, Int.toNat_add, Snap.c, entv_s, sesv_s, iv_s] <;> first | rfl | omega) _ (little_ok x _) ?_
  rintro _ _ ⟨⟨l1, rfl, hl1⟩, rfl⟩
  by_cases p1 : (30 : Int) < (la.length : Int)
  · refine goes_eq (by simp -implicitDefEqProofs (disch := (first | omega | (simp; done) | fail)) [if_pos, if_neg, wrap_i64, tmod_pos, tdiv_pos, Int.toNat_add, p1]; rfl) ?_
    repeat (first | ((first | refine zd ?_ | refine zx ?_ | refine zk ?_ | refine zl ?_ | refine zr ?_); refine zq ?_) | refine zs ?_ | refine zh (by simp -implicitDefEqProofs (disch := (first | omega | (simp; done) | fail)) [if_pos, if_neg, wrap_i64, tmod_pos, tdiv_pos, Int.toNat_add, p1]; rfl) ?_ | refine zb ?_ | refine zo ?_ | refine zt ?_ | refine zf ?_)
    first | refine zy (.inr rfl) ?_ | refine zy (.inl rfl) ?_
    simp
  by_cases p2 : (30 : Int) < (lb.length : Int)
  · refine goes_eq (by simp -implicitDefEqProofs (disch := (first | omega | (simp; done) | fail)) [if_pos, if_neg, wrap_i64, tmod_pos, tdiv_pos, Int.toNat_add, p1, p2]; rfl) ?_
    repeat (first | ((first | refine zd ?_ | refine zx ?_ | refine zk ?_ | refine zl ?_ | refine zr ?_); refine zq ?_) | refine zs ?_ | refine zh (by simp -implicitDefEqProofs (disch := (first | omega | (simp; done) | fail)) [if_pos, if_neg, wrap_i64, tmod_pos, tdiv_pos, Int.toNat_add, p1, p2]; rfl) ?_ | refine zb ?_ | refine zo ?_ | refine zt ?_ | refine zf ?_)
    first | refine zy (.inr rfl) ?_ | refine zy (.inl rfl) ?_
    simp
  cases l1 with
  | false =>
    refine goes_eq (by simp -implicitDefEqProofs (disch := (first | omega | (simp; done) | fail)) [if_pos, if_neg, wrap_i64, tmod_pos, tdiv_pos, Int.toNat_add, p1, p2]; rfl) ?_
    repeat (first | ((first | refine zd ?_ | refine zx ?_ | refine zk ?_ | refine zl ?_ | refine zr ?_); refine zq ?_) | refine zs ?_ | refine zh (by simp -implicitDefEqProofs (disch := (first | omega | (simp; done) | fail)) [if_pos, if_neg, wrap_i64, tmod_pos, tdiv_pos, Int.toNat_add, p1, p2]; rfl) ?_ | refine zb ?_ | refine zo ?_ | refine zt ?_ | refine zf ?_)
    first | refine zy (.inr rfl) ?_ | refine zy (.inl rfl) ?_
    simp
  | true =>
  have lx := hl1 rfl
  clear hl1
  refine goes_eq (by simp -implicitDefEqProofs (disch := (first | omega | (simp; done) | fail)) [if_pos, if_neg, wrap_i64, tmod_pos, tdiv_pos, Int.toNat_add, p1, p2]; rfl) ?_
  repeat (first | ((first | refine zd ?_ | refine zx ?_ | refine zk ?_ | refine zl ?_ | refine zr ?_); refine zq ?_) | refine zs ?_ | refine zh (by simp -implicitDefEqProofs (disch := (first | omega | (simp; done) | fail)) [if_pos, if_neg, wrap_i64, tmod_pos, tdiv_pos, Int.toNat_add, p1, p2]; rfl) ?_ | refine zb ?_ | refine zo ?_ | refine zt ?_ | refine zf ?_)
  refine awp_loop (fun z st => ∃ (i : Nat) (X : AHeap) (tok : Tok), z = la.length - i ∧ i ≤ la.length ∧ (∀ c ∈ la.take i, c.length ≤ 3000) ∧ TokAt h.length 1 X 33 1 tok ∧ st.le ⟨Try.f3.ntmps, [(1, .list (la.map .str) ta), (2, .list (lb.map .str) tb), (3, .ref x.c 0), (6, .bool false), (7, .bool true), (9, .list ((la.take i).map byl) tok), (10, iv (i : Nat))], h ++ .dead :: X⟩) la.length ?_ ?_
  rotate_left
  rintro z st ⟨i, X, tok, rfl, hi, hsm, ht, hle⟩
  · refine awp_le hle ?_
    clear hle
    by_cases h9 : i = la.length
    · subst h9
      have q : ¬ (la.length : Int) < (la.length : Int) := by omega
      rw [List.take_length] at *
      simp only [Snap.c]
      repeat (first | ((first | refine zd ?_ | refine zx ?_ | refine zk ?_ | refine zl ?_ | refine zr ?_); refine zq ?_) | refine zs ?_ | refine zh (by simp -implicitDefEqProofs (disch := (first | omega | (simp; done) | fail)) [if_pos, if_neg, wrap_i64, tmod_pos, tdiv_pos, Int.toNat_add, q]; rfl) ?_ | refine zb ?_ | refine zo ?_ | refine zt ?_ | refine zf ?_)
      have f0 : SFit (x, []) := ⟨lx, fun q hq => by simp at hq⟩
      have fa : ∀ b ∈ la, b.length ≤ 100000 := fun b hb => by have := hsm b hb; omega
      refine goes_callS (callable_of Try.func7) (by simp -implicitDefEqProofs (disch := (first | omega | (simp; done) | fail)) [if_pos, if_neg, wrap_i64, tmod_pos, tdiv_pos, Int.toNat_add, Snap.c, entv_s, sesv_s, iv_s] <;> first | rfl | omega) _ (replay_ok x la .no (by omega) (fun b hb => fit_of (fa b hb)) _) ?_
      rintro _ _ ⟨X2, m, rfl, rfl, hS, hM⟩
      have f1 := repS_fit f0 la fa
      have g1 := repS_len (x, []) la
      have hAll : ∀ l, repS (x, []) (la ++ l) = repS (repS (x, []) la) l := fun l => by unfold repS; rw [List.foldl_append]
      generalize repS (x, []) la = s0 at *
      refine goes_eq (by simp -implicitDefEqProofs (disch := (first | omega | (simp; done) | fail)) [if_pos, if_neg, wrap_i64, tmod_pos, tdiv_pos, Int.toNat_add, stv, sv]; rfl) ?_
      repeat (first | ((first | refine zd ?_ | refine zx ?_ | refine zk ?_ | refine zl ?_ | refine zr ?_); refine zq ?_) | refine zs ?_ | refine zh (by simp -implicitDefEqProofs (disch := (first | omega | (simp; done) | fail)) [if_pos, if_neg, wrap_i64, tmod_pos, tdiv_pos, Int.toNat_add, stv, sv]; rfl) ?_ | refine zb ?_ | refine zo ?_ | refine zt ?_ | refine zf ?_)
      have hS0 := hS.app [.cells (stc s0 m)]
      obtain ⟨Z, hZ⟩ : ∃ Z, Z = AObj.dead :: (X ++ (X2 ++ [.cells (stc s0 m)])) := ⟨_, rfl⟩
      obtain ⟨p, hp⟩ : ∃ p, p = X.length + X2.length + 1 := ⟨_, rfl⟩
      have hS1 : Stt (h ++ Z) s0 m := by rw [hZ]; simpa using hS0
      have hZp : Z[p]? = some (.cells (stc s0 m)) := by
        rw [hZ, hp, List.getElem?_cons_succ, List.getElem?_append_right (by omega), List.getElem?_append_right (by omega), show X.length + X2.length - X.length - X2.length = 0 by omega]; rfl
      have htZ : TokIn h.length Z 33 1 tok := by
        rcases ht with rfl | ⟨j, rfl, hj⟩
        · exact .full
        · refine .new (j := j + 1) ?_
          rw [hZ, List.getElem?_cons_succ, List.getElem?_append_left (List.getElem?_eq_some_iff.1 hj).1]; exact hj
      simp only [List.map_map] at *
      rw [← hp]
      clear hS hS0 ht
      refine awp_loop (fun z st => ∃ (i mi : Nat) (Zi : AHeap) (ti : Tok), z = lb.length - i ∧ i ≤ lb.length ∧ (∀ c ∈ lb.take i, c.length ≤ 3000) ∧ Zi[p]? = some (.cells (stc (repS s0 (lb.take i)) mi)) ∧ TokIn h.length Zi 33 1 ti ∧ Stt (h ++ Zi) (repS s0 (lb.take i)) mi ∧ MRis (repS s0 (lb.take i)).2 ∧ (repS s0 (lb.take i)).2.length ≤ 30 + i ∧ SFit (repS s0 (lb.take i)) ∧ st.le ⟨Try.f3.ntmps, [(2, .list (lb.map .str) tb), (3, .ref x.c 0), (6, .bool false), (7, .bool true), (9, .list ((la ++ lb.take i).map byl) ti), (11, .ptr (h.length + p) 0), (12, iv (i : Nat))], h ++ Zi⟩) lb.length ?_ ?_
      rotate_left
      rintro z st ⟨i, mi, Zi, ti, rfl, hi, hsb, hZi, ht, hS, hMi, hli, hfi, hle⟩
      · refine awp_le hle ?_
        clear hle hZ hS1 hZp htZ hM f1
        by_cases h9 : i = lb.length
        · subst h9
          have q : ¬ (lb.length : Int) < (lb.length : Int) := by omega
          rw [List.take_length] at *
          simp only [Snap.c]
          repeat (first | ((first | refine zd ?_ | refine zx ?_ | refine zk ?_ | refine zl ?_ | refine zr ?_); refine zq ?_) | refine zs ?_ | refine zh (by simp -implicitDefEqProofs (disch := (first | omega | (simp; done) | fail)) [if_pos, if_neg, wrap_i64, tmod_pos, tdiv_pos, Int.toNat_add, q]; rfl) ?_ | refine zb ?_ | refine zo ?_ | refine zt ?_ | refine zf ?_)
          have fb : ∀ b ∈ la ++ lb, b.length ≤ 100000 := fun b hb => by
            rcases List.mem_append.1 hb with hb | hb
            · exact fa b hb
            · have := hsb b hb; omega
          refine goes_callS (callable_of Try.func7) (by simp -implicitDefEqProofs (disch := (first | omega | (simp; done) | fail)) [if_pos, if_neg, wrap_i64, tmod_pos, tdiv_pos, Int.toNat_add, Snap.c, entv_s, sesv_s, iv_s] <;> first | rfl | omega) _ (replay_ok x (la ++ lb) .no (by simp; omega) (fun b hb => fit_of (fb b hb)) _) ?_
          rintro _ _ ⟨X4, m4, rfl, rfl, hS4, hM4⟩
          rw [hAll lb] at *
          generalize repS s0 lb = s1 at *
          have hpl := (List.getElem?_eq_some_iff.1 hZi).1
          have hz2 : ∀ Y : AHeap, (h ++ (Zi ++ Y))[h.length + p]? = some (.cells (stc s1 mi)) := fun Y => by rw [List.getElem?_append_right (by omega), show h.length + p - h.length = p by omega, List.getElem?_append_left hpl]; exact hZi
          refine goes_eq (by simp -implicitDefEqProofs (disch := (first | omega | (simp; done) | fail)) [if_pos, if_neg, wrap_i64, tmod_pos, tdiv_pos, Int.toNat_add, stv, sv]; rfl) ?_
          refine goes_done ?_
          (try simp only [vq, if_true, reduceIte, Nat.reduceEqDiff, reduceCtorEq])
          obtain ⟨Z2, hZ2⟩ : ∃ Z2, Z2 = Zi ++ (X4 ++ [AObj.cells (stc s1 m4)]) := ⟨_, rfl⟩
          obtain ⟨pq, hpq⟩ : ∃ pq, pq = Zi.length + X4.length := ⟨_, rfl⟩
          have hne : ¬ p = pq := by omega
          have hne2 : ¬ pq = p := by omega
          have zp : Z2[p]? = some (.cells (stc s1 mi)) := by rw [hZ2, List.getElem?_append_left hpl]; exact hZi
          have zq : Z2[pq]? = some (.cells (stc s1 m4)) := by
            rw [hZ2, hpq, List.getElem?_append_right (by omega), List.getElem?_append_right (by omega), show Zi.length + X4.length - Zi.length - X4.length = 0 by omega]; rfl
          have T1 : Stt (h ++ Z2) s1 mi := by have := hS.app (X4 ++ [AObj.cells (stc s1 m4)]); rw [hZ2]; simpa using this
          have T2 : Stt (h ++ Z2) s1 m4 := by have := hS4.app [AObj.cells (stc s1 m4)]; rw [hZ2]; simpa using this
          rw [← hpq]
          refine awp_le (show ASt.le _ ⟨Try.f3.ntmps, [(6, .bool false), (7, .bool true), (11, .ptr (h.length + p) 0), (15, .ptr (h.length + pq) 0)], h ++ Z2⟩ from by rw [hZ2]; exact st_keep' (by simp [stc]) (by simp [stc])) ?_
          clear hZ2 hS hS4 hZi hz2 ht hpq hpl
          have gb : ∀ (Y : AHeap) (k : Nat), (h ++ Y)[h.length + k]? = Y[k]? := fun Y k => by rw [List.getElem?_append_right (by omega), show h.length + k - h.length = k by omega]
          refine awp_hard (id := h.length + p) ((gb _ _).trans zp) ?_
          have U1 := T1.upd (o' := .dead) ((gb _ _).trans zp) (fun _ _ e => by cases e)
          have U2 := T2.upd (o' := .dead) ((gb _ _).trans zp) (fun _ _ e => by cases e)
          have zq2 : (List.set Z2 p .dead)[pq]? = some (.cells (stc s1 m4)) := by rw [List.getElem?_set_ne hne]; exact zq
          rw [set_behind] at U1 U2 ⊢
          simp only [Slots.melt, AV.melt, Nat.add_left_cancel_iff, hne, hne2, reduceIte]
          refine awp_hard (id := h.length + pq) ((gb _ _).trans zq2) ?_
          have W1 := U1.upd (o' := .dead) ((gb _ _).trans zq2) (fun _ _ e => by cases e)
          have W2 := U2.upd (o' := .dead) ((gb _ _).trans zq2) (fun _ _ e => by cases e)
          rw [set_behind] at W1 W2 ⊢
          simp only [Slots.melt, AV.melt, Nat.add_left_cancel_iff, hne, hne2, reduceIte]
          generalize (List.set Z2 p AObj.dead).set pq .dead = Z3 at *
          clear U1 U2 T1 T2 zp zq zq2
          unfold stc
          repeat (first | ((first | refine zd ?_ | refine zx ?_ | refine zk ?_ | refine zl ?_ | refine zr ?_); refine zq ?_) | refine zs ?_ | refine zh (by simp -implicitDefEqProofs (disch := (first | omega | (simp; done) | fail)) [if_pos, if_neg, wrap_i64, tmod_pos, tdiv_pos, Int.toNat_add, entv_s, sesv_s, iv_s]; rfl) ?_ | refine zb ?_ | refine zo ?_ | refine zt ?_ | refine zf ?_)
          refine goes_callS (callable_of Try.func10) (by simp -implicitDefEqProofs (disch := (first | omega | (simp; done) | fail)) [if_pos, if_neg, wrap_i64, tmod_pos, tdiv_pos, Int.toNat_add, Snap.c, entv_s, sesv_s, iv_s] <;> first | rfl | omega) _ (same_ok s1.1 s1.1 hfi.lit hfi.lit _) ?_
          rintro _ _ ⟨rfl, rfl⟩
          refine ze ?_
          repeat (first | ((first | refine zd ?_ | refine zx ?_ | refine zk ?_ | refine zl ?_ | refine zr ?_); refine zq ?_) | refine zs ?_ | refine zg ?_ | refine zb ?_ | refine zo ?_ | refine zt ?_ | refine zf ?_)
          obtain ⟨z, hz⟩ := zero_inst
          refine awp_loop (fun z st => ∃ (i : Nat), z = s1.2.length - i ∧ i ≤ s1.2.length ∧ st.le ⟨Try.f3.ntmps, [(6, .bool false), (7, .bool true), (11, .ref (stc s1 mi) 0), (15, .ref (stc s1 m4) 0), (16, iv (i : Nat))], h ++ Z3⟩) s1.2.length ?_ ?_
          rotate_left
          rintro z st ⟨i, rfl, hi, hle⟩
          · refine awp_le hle ?_
            clear hle
            unfold stc
            by_cases h9 : i = s1.2.length
            · subst h9
              have q : ¬ (s1.2.length : Int) < (s1.2.length : Int) := by omega
              repeat (first | ((first | refine zd ?_ | refine zx ?_ | refine zk ?_ | refine zl ?_ | refine zr ?_); refine zq ?_) | refine zs ?_ | refine zh (by simp -implicitDefEqProofs (disch := (first | omega | (simp; done) | fail)) [if_pos, if_neg, wrap_i64, tmod_pos, tdiv_pos, Int.toNat_add, q]; rfl) ?_ | refine zb ?_ | refine zo ?_ | refine zt ?_ | refine zf ?_)
              first | refine zy (.inr rfl) ?_ | refine zy (.inl rfl) ?_
              simp
            have hlt : i < s1.2.length := by omega
            have q : (i : Int) < (s1.2.length : Int) := by omega
            have hi1 : i + 1 ≤ s1.2.length := hlt
            have h21 : s1.2.length - (i + 1) < s1.2.length - i := by omega
            obtain ⟨pr, hpr⟩ : ∃ pr, s1.2[i]? = some pr := ⟨s1.2[i], by simp [hlt]⟩
            have hx2 : (s1.2.map (Iid.av ∘ fun x => x.1))[i]? = some (Iid.av pr.1) := by simp [hpr]
            have hu : uni 3 (s1.2.map (Iid.av ∘ fun x => x.1)) = true := uni_map fun _ => rfl
            have hdp := hfi.deps pr (List.mem_of_getElem? hpr)
            clear hlt
            refine awp_seq ?_
            refine awp_seq ?_
            refine zh (by simp -implicitDefEqProofs (disch := (first | omega | (simp; done) | fail)) [if_pos, if_neg, wrap_i64, tmod_pos, tdiv_pos, Int.toNat_add, q]; rfl) ?_
            refine goes_done ?_
            (try simp only [vq, if_true, reduceIte, Nat.reduceEqDiff, reduceCtorEq])
            refine awp_cond_t rfl ?_
            refine awp_skip ?_
            simp only [vq, if_true, reduceIte, Nat.reduceEqDiff, reduceCtorEq]
            refine awp_seq ?_
            refine awp_block ?_
            refine awp_seq ?_
            refine awp_drawS (graft (.two 19 27 (.a 27 (.a 28 (.q 29 (.q 30 .done)))) (.a 19 (.a 28 (.q 29 (.q 30 .done))))) (.q 0 (.q 1 (.q 2 (.q 3 (.q 4 (.q 5 (.q 6 (.q 7 (.q 8 (.q 9 (.q 10 (.q 11 (.q 12 (.q 13 (.q 14 (.q 15 (.q 16 (.q 17 (.q 18 (.q 20 (.q 21 (.q 22 (.q 23 (.q 24 (.q 25 (.q 26 .done))))))))))))))))))))))))))) (by kernel_rfl) (by kernel_rfl) (tree_graft (tree_start (goesT_eq (by simp -implicitDefEqProofs (disch := (first | omega | (simp; done) | fail)) [if_pos, if_neg, hx2, hu, Iid.av, Iid.c]; rfl) ?_)))
            refine goesT_done ?_
            obtain ⟨es1, c1, ho1, hR1⟩ := W1
            obtain ⟨es2, c2, ho2, hR2⟩ := W2
            have hk := getM_at hMi (List.mem_of_getElem? hpr)
            have hl1 := hR1.look hk z
            have hl2 := hR2.look hk z
            obtain ⟨k, y⟩ := pr
            dsimp only at *
            clear hpr hk hR1 hR2
            refine ⟨aats_look (id := mi) (es := es1) (clock := c1) (k := k) (z := z) I.iid_key rfl rfl rfl Try.underlying35 hz rfl rfl ho1 ?_, aats_look (id := m4) (es := es2) (clock := c2) (k := k) (z := z) I.iid_key rfl rfl rfl Try.underlying35 hz rfl rfl ho2 ?_⟩
            · rw [hl1]
              refine aats_look (id := m4) (es := es2) (clock := c2) (k := k) (z := z) I.iid_key rfl rfl rfl Try.underlying35 hz rfl rfl ho2 ?_
              rw [hl2]
              refine tree_s (tree_start (goesT_eq (by simp -implicitDefEqProofs (disch := (first | omega | (simp; done) | fail)) [if_pos, if_neg, Inst.c, idv_s]; rfl) ?_))
              refine goesT_callS (callable_of Try.func11) (by simp -implicitDefEqProofs (disch := (first | omega | (simp; done) | fail)) [if_pos, if_neg, wrap_i64, tmod_pos, tdiv_pos, Int.toNat_add, Inst.c, idv_s] <;> first | rfl | omega) _ (inst_refl y hdp _) ?_
              rintro _ _ ⟨rfl, rfl⟩
              refine zE ?_
              refine goesT_done ?_
              (try simp only [vq, if_true, reduceIte, Nat.reduceEqDiff, reduceCtorEq])
              repeat (first | ((first | refine zd ?_ | refine zx ?_ | refine zk ?_ | refine zl ?_ | refine zr ?_); refine zq ?_) | refine zs ?_ | refine zg ?_ | refine zb ?_ | refine zo ?_ | refine zt ?_ | refine zf ?_)
              exact ⟨s1.2.length - (i + 1), h21, i + 1, rfl, hi1, st_keep' (by simp [stc]) (by simp [stc])⟩
            · rw [hl2]
              refine aats_look (id := mi) (es := es1) (clock := c1) (k := k) (z := z) I.iid_key rfl rfl rfl Try.underlying35 hz rfl rfl ho1 ?_
              rw [hl1]
              refine tree_s (tree_start (goesT_eq (by simp -implicitDefEqProofs (disch := (first | omega | (simp; done) | fail)) [if_pos, if_neg, Inst.c, idv_s]; rfl) ?_))
              refine goesT_callS (callable_of Try.func11) (by simp -implicitDefEqProofs (disch := (first | omega | (simp; done) | fail)) [if_pos, if_neg, wrap_i64, tmod_pos, tdiv_pos, Int.toNat_add, Inst.c, idv_s] <;> first | rfl | omega) _ (inst_refl y hdp _) ?_
              rintro _ _ ⟨rfl, rfl⟩
              refine zE ?_
              refine goesT_done ?_
              (try simp only [vq, if_true, reduceIte, Nat.reduceEqDiff, reduceCtorEq])
              repeat (first | ((first | refine zd ?_ | refine zx ?_ | refine zk ?_ | refine zl ?_ | refine zr ?_); refine zq ?_) | refine zs ?_ | refine zg ?_ | refine zb ?_ | refine zo ?_ | refine zt ?_ | refine zf ?_)
              exact ⟨s1.2.length - (i + 1), h21, i + 1, rfl, hi1, st_keep' (by simp [stc]) (by simp [stc])⟩
          · exact ⟨0, rfl, by omega, st_keep' (by simp [stc]) (by simp [stc])⟩
        have hlt : i < lb.length := by omega
        have q : (i : Int) < (lb.length : Int) := by omega
        have hx2 : (lb.map AV.str)[i]? = some (AV.str lb[i]) := by simp [hlt]
        have htk : lb.take (i + 1) = lb.take i ++ [lb[i]] := List.take_succ_eq_append_getElem hlt
        have hrk : repS s0 (lb.take (i + 1)) = stepS (repS s0 (lb.take i)) lb[i] := by rw [htk, repS, List.foldl_append]; rfl
        have hi1 : i + 1 ≤ lb.length := hlt
        have h21 : lb.length - (i + 1) < lb.length - i := by omega
        have hln : (la ++ lb.take i).length ≤ 60 := by simp; omega
        have hal : la ++ lb.take (i + 1) = (la ++ lb.take i) ++ [lb[i]] := by rw [htk, List.append_assoc]
        generalize lb[i] = b at *
        generalize lb.take i = accb at *
        generalize la ++ accb = acc at *
        clear hlt
        by_cases q2 : (3000 : Int) < (b.length : Int)
        · repeat (first | ((first | refine zd ?_ | refine zx ?_ | refine zk ?_ | refine zl ?_ | refine zr ?_); refine zq ?_) | refine zs ?_ | refine zh (by simp -implicitDefEqProofs (disch := (first | omega | (simp; done) | fail)) [if_pos, if_neg, wrap_i64, tmod_pos, tdiv_pos, Int.toNat_add, q, hx2, q2, str_uni, AV.cells]; rfl) ?_ | refine zb ?_ | refine zo ?_ | refine zt ?_ | refine zf ?_)
          first | refine zy (.inr rfl) ?_ | refine zy (.inl rfl) ?_
          simp
        have hb30 : b.length ≤ 3000 := by omega
        have hsm2 : ∀ c ∈ lb.take (i + 1), c.length ≤ 3000 := by
          rw [htk]; intro c hc
          rcases List.mem_append.1 hc with hc | hc
          · exact hsb c hc
          · simp at hc; subst hc; exact hb30
        have hfs := hfi.step (b := b) (by omega)
        have hri := stepS_ris (b := b) hMi
        have hrl := stepS_len (repS s0 accb) b
        have hsmall := small_of b (by omega)
        have hpl := (List.getElem?_eq_some_iff.1 hZi).1
        have hst : stepS (repS s0 accb) b = if (whole rdRec .zero b).2 = 0 then addS (repS s0 accb) (whole rdRec .zero b).1 else repS s0 accb := rfl
        generalize stepS (repS s0 accb) b = s2 at *
        generalize repS s0 accb = s1 at *
        rcases ht with rfl | ⟨j, rfl, hj⟩
        · have hz1 : ∀ Y : AHeap, (Zi ++ Y)[p]? = some (.cells (stc s1 mi)) := fun Y => by rw [List.getElem?_append_left hpl]; exact hZi
          have hSz := hS
          repeat (first | ((first | refine zd ?_ | refine zx ?_ | refine zk ?_ | refine zl ?_ | refine zr ?_); refine zq ?_) | refine zs ?_ | refine zh (by simp -implicitDefEqProofs (disch := (first | omega | (simp; done) | fail)) [if_pos, if_neg, wrap_i64, tmod_pos, tdiv_pos, Int.toNat_add, q, hx2, q2, str_uni, AV.cells]; rfl) ?_ | refine zb ?_ | refine zo ?_ | refine zt ?_ | refine zf ?_)
          refine zp (callable_of Try.func8) _ (get_ok b .no (by omega) _) ?_
          rintro _ _ ⟨rfl, rfl⟩
          generalize whole rdRec .zero b = pr at *
          obtain ⟨r, e⟩ := pr
          dsimp only at *
          have hz3 : (Zi).length = Zi.length := by simp
          have hz2 : ∀ Y : AHeap, p < (Zi ++ Y).length := fun Y => by simp; omega
          by_cases he : e = 0
          · subst he
            rw [if_pos rfl] at hst
            subst hst
            have hz0 := hz1
            unfold stc at hz1
            refine goes_eq (by simp -implicitDefEqProofs (disch := (first | omega | (simp; done) | fail)) [if_pos, if_neg, wrap_i64, tmod_pos, tdiv_pos, Int.toNat_add, Rec.c]; rfl) ?_
            repeat (first | ((first | refine zd ?_ | refine zx ?_ | refine zk ?_ | refine zl ?_ | refine zr ?_); refine zq ?_) | refine zs ?_ | refine zh (by simp -implicitDefEqProofs (disch := (first | omega | (simp; done) | fail)) [if_pos, if_neg, wrap_i64, tmod_pos, tdiv_pos, Int.toNat_add, Rec.c, hz1]; rfl) ?_ | refine zb ?_ | refine zo ?_ | refine zt ?_ | refine zf ?_)
            refine goes_callS (callable_of Try.func9) (by simp -implicitDefEqProofs (disch := (first | omega | (simp; done) | fail)) [if_pos, if_neg, wrap_i64, tmod_pos, tdiv_pos, Int.toNat_add, stv, sv, Rec.c] <;> first | rfl | omega) _ (add_ok s1 r mi _ (by have := hSz.app [.tail 33 1, .cells r.c]; simpa [Rec.c] using this) hMi (by omega) hsmall.lit.nodes) ?_
            rintro _ _ ⟨X3, m3, rfl, rfl, hS3⟩
            unfold stv sv
            generalize addS s1 r = s3 at *
            refine goes_eq (by simp -implicitDefEqProofs (disch := (first | omega | (simp; done) | fail)) [if_pos, if_neg, wrap_i64, tmod_pos, tdiv_pos, Int.toNat_add, hz1, hz2]; rfl) ?_
            repeat (first | ((first | refine zd ?_ | refine zx ?_ | refine zk ?_ | refine zl ?_ | refine zr ?_); refine zq ?_) | refine zs ?_ | refine zh (by simp -implicitDefEqProofs (disch := (first | omega | (simp; done) | fail)) [if_pos, if_neg, wrap_i64, tmod_pos, tdiv_pos, Int.toNat_add, hz1, hz2]; rfl) ?_ | refine zb ?_ | refine zo ?_ | refine zt ?_ | refine zf ?_)
            refine ⟨lb.length - (i + 1), h21, i + 1, m3, (Zi).set p (.cells (stc s3 m3)) ++ (.tail 33 1 :: .cells r.c :: X3), .own (h.length + Zi.length), rfl, hi1, hsm2, ?_⟩
            rw [hrk, hal]
            have hS4 : Stt (h ++ (Zi ++ (.tail 33 1 :: .cells r.c :: X3))) s3 m3 := by simpa [Rec.c] using hS3
            have hg : (h ++ (Zi ++ (.tail 33 1 :: .cells r.c :: X3)))[h.length + p]? = some (.cells (stc s1 mi)) := by rw [List.getElem?_append_right (by omega), show h.length + p - h.length = p by omega]; exact hz0 _
            have hS5 := hS4.upd (o' := .cells (stc s3 m3)) hg (fun _ _ e => by cases e)
            rw [set_behind, set_front _ _ _ _ (by rw [hz3]; exact hpl)] at hS5
            exact ⟨get_front _ _ _ _ (by rw [hz3]; exact hpl), .new (by rw [List.getElem?_append_right (by simp)]; simp), hS5, hri, by omega, hfs, st_keep' (by simp [byl, Rec.c, stc]) (by simp [byl, Rec.c, stc])⟩
          · have he2 : ((e : Int) == 0) = false := by simpa using he
            rw [if_neg he] at hst
            subst hst
            refine goes_eq (by simp -implicitDefEqProofs (disch := (first | omega | (simp; done) | fail)) [if_pos, if_neg, wrap_i64, tmod_pos, tdiv_pos, Int.toNat_add, Rec.c]; rfl) ?_
            repeat (first | ((first | refine zd ?_ | refine zx ?_ | refine zk ?_ | refine zl ?_ | refine zr ?_); refine zq ?_) | refine zs ?_ | refine zh (by simp -implicitDefEqProofs (disch := (first | omega | (simp; done) | fail)) [if_pos, if_neg, wrap_i64, tmod_pos, tdiv_pos, Int.toNat_add, Rec.c, hz1, he2]; rfl) ?_ | refine zb ?_ | refine zo ?_ | refine zt ?_ | refine zf ?_)
            refine ⟨lb.length - (i + 1), h21, i + 1, mi, Zi ++ (.tail 33 1 :: [.cells r.c]), .own (h.length + Zi.length), rfl, hi1, hsm2, ?_⟩
            rw [hrk, hal]
            exact ⟨hz1 _, .new (by rw [List.getElem?_append_right (by simp)]; simp), by simpa using hSz.app (.tail 33 1 :: [.cells r.c]), hri, by omega, hfs, st_keep' (by simp [byl, Rec.c]) (by simp [byl, Rec.c])⟩
        · have hjp : j ≠ p := fun e => by subst e; rw [hj] at hZi; cases hZi
          have hz1 : ∀ Y : AHeap, (Zi.set j .dead ++ Y)[p]? = some (.cells (stc s1 mi)) := fun Y => by
            rw [List.getElem?_append_left (by simpa using hpl), List.getElem?_set_ne hjp]; exact hZi
          have hSz : Stt (h ++ Zi.set j .dead) s1 mi := by
            have hg : (h ++ Zi)[h.length + j]? = some (.tail 33 1) := by rw [List.getElem?_append_right (by omega), show h.length + j - h.length = j by omega]; exact hj
            have := hS.upd (o' := .dead) hg (fun _ _ e => by cases e)
            rwa [set_behind] at this
          repeat (first | ((first | refine zd ?_ | refine zx ?_ | refine zk ?_ | refine zl ?_ | refine zr ?_); refine zq ?_) | refine zs ?_ | refine zh (by simp -implicitDefEqProofs (disch := (first | omega | (simp; done) | fail)) [if_pos, if_neg, wrap_i64, tmod_pos, tdiv_pos, Int.toNat_add, q, hx2, q2, str_uni, AV.cells, hj]; rfl) ?_ | refine zb ?_ | refine zo ?_ | refine zt ?_ | refine zf ?_)
          refine zp (callable_of Try.func8) _ (get_ok b .no (by omega) _) ?_
          rintro _ _ ⟨rfl, rfl⟩
          generalize whole rdRec .zero b = pr at *
          obtain ⟨r, e⟩ := pr
          dsimp only at *
          have hz3 : (Zi.set j .dead).length = Zi.length := by simp
          have hz2 : ∀ Y : AHeap, p < (Zi.set j .dead ++ Y).length := fun Y => by simp; omega
          by_cases he : e = 0
          · subst he
            rw [if_pos rfl] at hst
            subst hst
            have hz0 := hz1
            unfold stc at hz1
            refine goes_eq (by simp -implicitDefEqProofs (disch := (first | omega | (simp; done) | fail)) [if_pos, if_neg, wrap_i64, tmod_pos, tdiv_pos, Int.toNat_add, Rec.c]; rfl) ?_
            repeat (first | ((first | refine zd ?_ | refine zx ?_ | refine zk ?_ | refine zl ?_ | refine zr ?_); refine zq ?_) | refine zs ?_ | refine zh (by simp -implicitDefEqProofs (disch := (first | omega | (simp; done) | fail)) [if_pos, if_neg, wrap_i64, tmod_pos, tdiv_pos, Int.toNat_add, Rec.c, hz1]; rfl) ?_ | refine zb ?_ | refine zo ?_ | refine zt ?_ | refine zf ?_)
            refine goes_callS (callable_of Try.func9) (by simp -implicitDefEqProofs (disch := (first | omega | (simp; done) | fail)) [if_pos, if_neg, wrap_i64, tmod_pos, tdiv_pos, Int.toNat_add, stv, sv, Rec.c] <;> first | rfl | omega) _ (add_ok s1 r mi _ (by have := hSz.app [.tail 33 1, .cells r.c]; simpa [Rec.c] using this) hMi (by omega) hsmall.lit.nodes) ?_
            rintro _ _ ⟨X3, m3, rfl, rfl, hS3⟩
            unfold stv sv
            generalize addS s1 r = s3 at *
            refine goes_eq (by simp -implicitDefEqProofs (disch := (first | omega | (simp; done) | fail)) [if_pos, if_neg, wrap_i64, tmod_pos, tdiv_pos, Int.toNat_add, hz1, hz2]; rfl) ?_
            repeat (first | ((first | refine zd ?_ | refine zx ?_ | refine zk ?_ | refine zl ?_ | refine zr ?_); refine zq ?_) | refine zs ?_ | refine zh (by simp -implicitDefEqProofs (disch := (first | omega | (simp; done) | fail)) [if_pos, if_neg, wrap_i64, tmod_pos, tdiv_pos, Int.toNat_add, hz1, hz2]; rfl) ?_ | refine zb ?_ | refine zo ?_ | refine zt ?_ | refine zf ?_)
            refine ⟨lb.length - (i + 1), h21, i + 1, m3, (Zi.set j .dead).set p (.cells (stc s3 m3)) ++ (.tail 33 1 :: .cells r.c :: X3), .own (h.length + Zi.length), rfl, hi1, hsm2, ?_⟩
            rw [hrk, hal]
            have hS4 : Stt (h ++ (Zi.set j .dead ++ (.tail 33 1 :: .cells r.c :: X3))) s3 m3 := by simpa [Rec.c] using hS3
            have hg : (h ++ (Zi.set j .dead ++ (.tail 33 1 :: .cells r.c :: X3)))[h.length + p]? = some (.cells (stc s1 mi)) := by rw [List.getElem?_append_right (by omega), show h.length + p - h.length = p by omega]; exact hz0 _
            have hS5 := hS4.upd (o' := .cells (stc s3 m3)) hg (fun _ _ e => by cases e)
            rw [set_behind, set_front _ _ _ _ (by rw [hz3]; exact hpl)] at hS5
            exact ⟨get_front _ _ _ _ (by rw [hz3]; exact hpl), .new (by rw [List.getElem?_append_right (by simp)]; simp), hS5, hri, by omega, hfs, st_keep' (by simp [byl, Rec.c, stc]) (by simp [byl, Rec.c, stc])⟩
          · have he2 : ((e : Int) == 0) = false := by simpa using he
            rw [if_neg he] at hst
            subst hst
            refine goes_eq (by simp -implicitDefEqProofs (disch := (first | omega | (simp; done) | fail)) [if_pos, if_neg, wrap_i64, tmod_pos, tdiv_pos, Int.toNat_add, Rec.c]; rfl) ?_
            repeat (first | ((first | refine zd ?_ | refine zx ?_ | refine zk ?_ | refine zl ?_ | refine zr ?_); refine zq ?_) | refine zs ?_ | refine zh (by simp -implicitDefEqProofs (disch := (first | omega | (simp; done) | fail)) [if_pos, if_neg, wrap_i64, tmod_pos, tdiv_pos, Int.toNat_add, Rec.c, hz1, he2]; rfl) ?_ | refine zb ?_ | refine zo ?_ | refine zt ?_ | refine zf ?_)
            refine ⟨lb.length - (i + 1), h21, i + 1, mi, Zi.set j .dead ++ (.tail 33 1 :: [.cells r.c]), .own (h.length + Zi.length), rfl, hi1, hsm2, ?_⟩
            rw [hrk, hal]
            exact ⟨hz1 _, .new (by rw [List.getElem?_append_right (by simp)]; simp), by simpa using hSz.app (.tail 33 1 :: [.cells r.c]), hri, by omega, hfs, st_keep' (by simp [byl, Rec.c]) (by simp [byl, Rec.c])⟩
      · refine ⟨0, m, Z, tok, rfl, by omega, by simp, ?_⟩
        rw [List.take_zero, show repS s0 [] = s0 from rfl, List.append_nil]
        exact ⟨hZp, htZ, hS1, hM, by simpa using (by simp at g1; omega : s0.2.length ≤ 30), f1, by rw [hZ]; exact st_keep' (by simp [stc, Snap.c]) (by simp [stc, Snap.c])⟩
    have hlt : i < la.length := by omega
    have q : (i : Int) < (la.length : Int) := by omega
    have hx2 : (la.map AV.str)[i]? = some (AV.str la[i]) := by simp [hlt]
    have htk : la.take (i + 1) = la.take i ++ [la[i]] := List.take_succ_eq_append_getElem hlt
    have hi1 : i + 1 ≤ la.length := hlt
    have h21 : la.length - (i + 1) < la.length - i := by omega
    have hln : (la.take i).length ≤ 30 := by simp; omega
    generalize la[i] = b at *
    generalize la.take i = acc at *
    clear hlt
    by_cases q2 : (3000 : Int) < (b.length : Int)
    · repeat (first | ((first | refine zd ?_ | refine zx ?_ | refine zk ?_ | refine zl ?_ | refine zr ?_); refine zq ?_) | refine zs ?_ | refine zh (by simp -implicitDefEqProofs (disch := (first | omega | (simp; done) | fail)) [if_pos, if_neg, wrap_i64, tmod_pos, tdiv_pos, Int.toNat_add, q, hx2, q2, str_uni, AV.cells]; rfl) ?_ | refine zb ?_ | refine zo ?_ | refine zt ?_ | refine zf ?_)
      first | refine zy (.inr rfl) ?_ | refine zy (.inl rfl) ?_
      simp
    have hb30 : b.length ≤ 3000 := by omega
    have hsm2 : ∀ c ∈ la.take (i + 1), c.length ≤ 3000 := by
      rw [htk]; intro c hc
      rcases List.mem_append.1 hc with hc | hc
      · exact hsm c hc
      · simp at hc; subst hc; exact hb30
    rcases ht with rfl | ⟨j, rfl, hj⟩
    · repeat (first | ((first | refine zd ?_ | refine zx ?_ | refine zk ?_ | refine zl ?_ | refine zr ?_); refine zq ?_) | refine zs ?_ | refine zh (by simp -implicitDefEqProofs (disch := (first | omega | (simp; done) | fail)) [if_pos, if_neg, wrap_i64, tmod_pos, tdiv_pos, Int.toNat_add, q, hx2, q2, str_uni, AV.cells]; rfl) ?_ | refine zb ?_ | refine zo ?_ | refine zt ?_ | refine zf ?_)
      exact ⟨la.length - (i + 1), h21, i + 1, X ++ [.tail 33 1], .own (h.length + (X.length + 1)), rfl, hi1, hsm2, .new (by simp), by rw [htk]; exact st_keep' (by simp [byl]) (by simp [byl])⟩
    · repeat (first | ((first | refine zd ?_ | refine zx ?_ | refine zk ?_ | refine zl ?_ | refine zr ?_); refine zq ?_) | refine zs ?_ | refine zh (by simp -implicitDefEqProofs (disch := (first | omega | (simp; done) | fail)) [if_pos, if_neg, wrap_i64, tmod_pos, tdiv_pos, Int.toNat_add, q, hx2, q2, str_uni, AV.cells, hj]; rfl) ?_ | refine zb ?_ | refine zo ?_ | refine zt ?_ | refine zf ?_)
      exact ⟨la.length - (i + 1), h21, i + 1, X.set j .dead ++ [.tail 33 1], .own (h.length + (X.length + 1)), rfl, hi1, hsm2, .new (by simp), by rw [htk]; exact st_keep' (by simp [byl]) (by simp [byl])⟩
  · exact ⟨0, [], .full, rfl, by omega, by simp, .full, st_keep' (by simp [Snap.c]) (by simp [Snap.c])⟩
end Go.Proofs.Ytdncoobpdllpkaa.Q
