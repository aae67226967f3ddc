import Derived.Test.YtdoaglcnncapdaaDD
/- Messages as bytes: beginnings are short; what is wrong is told. The plain law. -/
set_option linter.unusedVariables false
set_option linter.unusedSimpArgs false
namespace Go.Proofs.Ytdoaglcnncapdaa.D
open Go Go.Proofs.Ytdoaglcnncapdaa.V Go.Proofs.Ytdoaglcnncapdaa.N
structure Good {α : Type} (f : Spec α) (t : α → List Tk) : Prop where
  both : Both f t
  nz : ∀ l, f l ≠ .error 0
  cut : ∀ x c, bads (t x) = false → c < (flat (t x)).length → f ((flat (t x)).take c) = .error 10
theorem numG_cut : ∀ (m f i n0 c : Nat), c < (nb m).length → (nb m).length ≤ f → numG f i n0 ((nb m).take c) = (0, 0, 10) := by
  intro m
  induction m using Nat.strongRecOn with
  | ind m ih =>
    intro f i n0 c hc hf
    cases c with
    | zero =>
      cases f with
      | zero => omega
      | succ f => rfl
    | succ c =>
      by_cases h : m < 128
      · rw [nb_small h] at hc; simp at hc
      · rw [nb_big (by omega)] at hc hf ⊢
        simp only [List.length_cons] at hc hf
        cases f with
        | zero => omega
        | succ f =>
          simp only [List.take_succ_cons, numG]
          rw [if_pos (by rw [b8n_toNat]; omega)]
          exact ih (m / 128) (by omega) f _ _ c (by omega) (by omega)
theorem numB_cut {n c : Nat} (hn : n ≤ 281474976710656) (hc : c < (nb n).length) : numB ((nb n).take c) = (0, 0, 10) :=
  numG_cut n 8 0 0 c hc (Nat.le_trans (nb_len_k 6 n (by omega)) (by decide))
theorem take_app_lt {α : Type} {a b : List α} {c : Nat} (h : c < a.length) : (a ++ b).take c = a.take c := by
  rw [List.take_append_of_le_length (by omega)]
theorem take_app_ge {α : Type} {a b : List α} {c : Nat} (h : ¬ c < a.length) : (a ++ b).take c = a ++ b.take (c - a.length) := by
  rw [List.take_append, List.take_of_length_le (by omega)]
theorem Good.nop : Good nopS (fun _ => []) := ⟨both_nop, fun l h => (by cases h), fun x c _ h => by simp at h⟩
theorem good_num : Good rdNum (fun n => [.num n]) :=
  ⟨both_num, fun l h => by
    unfold rdNum at h
    split at h
    · cases h
    · rename_i he; injection h with h; exact he h,
  fun x c hb hc => by
    obtain ⟨m, rfl, hm⟩ := canB_nat (n := x) (by simpa [Tk.bad] using hb)
    simp only [flat_cons, flat_nil, List.append_nil, Tk.by, nbI_nat hm] at hc ⊢
    unfold rdNum
    rw [numB_cut hm hc]
    rfl⟩
theorem good_size : Good rdSize (fun n => [.size n]) :=
  ⟨both_size, fun l h => by
    unfold rdSize at h
    split at h
    · split at h <;> cases h
    · rename_i he; injection h with h; exact he h,
  fun x c hb hc => by
    have hb : x ≤ 1024 := by simp [Tk.bad] at hb; omega
    simp only [flat_cons, flat_nil, List.append_nil, Tk.by] at hc ⊢
    unfold rdSize
    rw [numB_cut (by omega) hc]
    rfl⟩
theorem good_text : Good rdText (fun s => [.text s]) :=
  ⟨both_text, fun l h => by
    unfold rdText at h
    split at h
    · split at h
      · cases h
      · split at h <;> cases h
    · rename_i he; injection h with h; exact he h,
  fun x c hb hc => by
    have hb : x.length ≤ 4096 := by simp [Tk.bad] at hb; omega
    simp only [flat_cons, flat_nil, List.append_nil, Tk.by] at hc ⊢
    by_cases h : c < (nb x.length).length
    · rw [take_app_lt h]
      unfold rdText
      rw [numB_cut (by omega) h]
      rfl
    · rw [take_app_ge h]
      unfold rdText
      rw [numB_of (by omega)]
      simp only [List.length_append] at hc
      have h1 : ¬ 4096 < x.length := by omega
      have h2 : (x.take (c - (nb x.length).length)).length < x.length := by rw [List.length_take]; omega
      simp only [if_true, h1, if_false, List.drop_left, h2]⟩
theorem Good.seq {α β : Type} {f : Spec α} {g : Spec β} {t : α → List Tk} {s : β → List Tk} (a : Good f t) (b : Good g s) : Good (seqS f g) (fun p => t p.1 ++ s p.2) :=
  ⟨a.both.seq b.both, fun l h => by
    unfold seqS at h
    cases hf : f l with
    | error e => rw [hf] at h; injection h with h; subst h; exact a.nz l hf
    | ok p =>
      rw [hf] at h
      simp only at h
      cases hg : g p.2 with
      | error e => rw [hg] at h; injection h with h; subst h; exact b.nz _ hg
      | ok q => rw [hg] at h; exact absurd h (by simp),
  fun x c hb hc => by
    simp only [bads_app, Bool.or_eq_false_iff] at hb
    simp only [flat_app, List.length_append] at hc ⊢
    unfold seqS
    by_cases h : c < (flat (t x.1)).length
    · rw [take_app_lt h, a.cut x.1 c hb.1 h]
    · rw [take_app_ge h, (a.both _ x.1 _).2 ⟨hb.1, rfl⟩]
      simp only
      rw [b.cut x.2 _ hb.2 (by omega)]⟩
theorem Good.as {α β : Type} {f : Spec α} {t : α → List Tk} (a : Good f t) (g : α → β) (gi : β → α) (h1 : ∀ x, gi (g x) = x) (h2 : ∀ y, g (gi y) = y) (t' : β → List Tk) (ht : ∀ y, t' y = t (gi y)) : Good (mapS g f) t' :=
  ⟨a.both.as g gi h1 h2 t' ht, fun l h => by
    unfold mapS at h
    cases hf : f l with
    | error e => rw [hf] at h; injection h with h; subst h; exact a.nz l hf
    | ok p => rw [hf] at h; exact absurd h (by simp),
  fun x c hb hc => by
    rw [ht] at hb hc ⊢
    unfold mapS
    rw [a.cut _ c hb hc]⟩
theorem good_N {α : Type} {f : Spec α} {t : α → List Tk} (a : Good f t) (h0 : f [] = .error 10) : ∀ (n : Nat), (∀ l, rdN f n l ≠ .error 0) ∧ ∀ (xs : List α) c, xs.length = n → bads (xs.flatMap t) = false → c < (flat (xs.flatMap t)).length → rdN f n ((flat (xs.flatMap t)).take c) = .error 10
  | 0 => ⟨fun l h => (by cases h), fun xs c hx hb hc => by
    obtain rfl := List.length_eq_zero_iff.1 hx
    simp at hc⟩
  | n + 1 => by
    have ih := good_N a h0 n
    unfold rdN
    rw [gate_eq h0]
    refine ⟨fun l h => ?_, fun xs c hx hb hc => ?_⟩
    · unfold mapS seqS at h
      cases hf : rdN f n l with
      | error e => rw [hf] at h; injection h with h; subst h; exact ih.1 l hf
      | ok p =>
        rw [hf] at h
        simp only at h
        cases hg : f p.2 with
        | error e => rw [hg] at h; injection h with h; subst h; exact a.nz _ hg
        | ok q => rw [hg] at h; cases h
    · obtain ⟨ys, y, rfl⟩ : ∃ ys y, xs = ys ++ [y] := by
        rcases List.eq_nil_or_concat xs with rfl | ⟨ys, y, rfl⟩
        · simp at hx
        · exact ⟨ys, y, by simp⟩
      simp only [List.length_append, List.length_cons, List.length_nil, Nat.zero_add, Nat.add_right_cancel_iff] at hx
      simp only [List.flatMap_append, List.flatMap_cons, List.flatMap_nil, List.append_nil, bads_app, Bool.or_eq_false_iff, flat_app, List.length_append] at hb hc ⊢
      unfold mapS seqS
      by_cases h : c < (flat (ys.flatMap t)).length
      · rw [take_app_lt h, ih.2 ys c hx hb.1 h]
      · rw [take_app_ge h, (both_N a.both h0 n _ ys _).2 ⟨hx, hb.1, rfl⟩]
        simp only
        rw [a.cut y _ hb.2 (by omega)]
theorem Good.list {α : Type} {f : Spec α} {t : α → List Tk} (a : Good f t) (h0 : f [] = .error 10) : Good (rdList f) (listT t) :=
  ⟨a.both.list h0, fun l h => by
    unfold rdList at h
    cases hs : rdSize l with
    | error e => rw [hs] at h; injection h with h; subst h; exact good_size.nz l hs
    | ok p => rw [hs] at h; exact (good_N a h0 p.1).1 _ h,
  fun xs c hb hc => by
    unfold listT at hb hc ⊢
    simp only [bads_cons, Bool.or_eq_false_iff] at hb
    have hb1 : bads [Tk.size xs.length] = false := by simp [hb.1]
    have e : flat (.size xs.length :: xs.flatMap t) = flat [.size xs.length] ++ flat (xs.flatMap t) := by simp
    rw [e] at hc ⊢
    rw [List.length_append] at hc
    unfold rdList
    by_cases h : c < (flat [Tk.size xs.length]).length
    · rw [take_app_lt h, good_size.cut _ c hb1 h]
    · rw [take_app_ge h, (both_size _ xs.length _).2 ⟨hb1, rfl⟩]
      exact (good_N a h0 _).2 xs _ rfl hb.2 (by omega)⟩
theorem good_id : Good rdId Iid.t :=
  (((Good.nop.seq good_num).seq good_num).seq good_num).as _ (fun x => ((((), x.e), x.n), x.o)) (fun _ => rfl) (fun _ => rfl) Iid.t (fun x => by simp [Iid.t])
theorem good_bal : Good rdBal Bal.t :=
  ((Good.nop.seq good_num).seq good_num).as _ (fun x => (((), x.no), x.node)) (fun _ => rfl) (fun _ => rfl) Bal.t (fun x => by simp [Bal.t])
theorem good_cmd : Good rdCmd Cmd.t :=
  ((((((((Good.nop.seq good_num).seq good_num).seq good_num).seq good_text).seq good_text).seq good_num).seq good_num).seq good_num).as _ (fun x => ((((((((((), x.client), x.seq), x.op), x.path), x.value), x.version), x.a), x.b))) (fun _ => rfl) (fun _ => rfl) Cmd.t (fun x => by simp [Cmd.t])
theorem good_entry : Good rdEntry Entry.t :=
  (((Good.nop.seq good_text).seq good_text).seq good_num).as _ (fun x => ((((), x.path), x.value), x.version)) (fun _ => rfl) (fun _ => rfl) Entry.t (fun x => by simp [Entry.t])
theorem good_n1 : Good rdN1 numT := (Good.nop.seq good_num).as _ (fun x => ((), x)) (fun _ => rfl) (fun _ => rfl) numT (fun x => by simp [numT])
theorem good_t1 : Good rdT1 textT := (Good.nop.seq good_text).as _ (fun x => ((), x)) (fun _ => rfl) (fun _ => rfl) textT (fun x => by simp [textT])
theorem good_reply : Good rdReply Reply.t :=
  ((((Good.nop.seq good_num).seq good_text).seq good_num).seq (good_t1.list t1_nil)).as _ (fun x => (((((), x.err), x.value), x.version), x.names)) (fun _ => rfl) (fun _ => rfl) Reply.t (fun x => by simp [Reply.t])
theorem good_sess : Good rdSess Sess.t :=
  (((Good.nop.seq good_num).seq good_num).seq good_reply).as _ (fun x => ((((), x.client), x.seq), x.reply)) (fun _ => rfl) (fun _ => rfl) Sess.t (fun x => by simp [Sess.t])
theorem good_snap : Good rdSnap Snap.t :=
  ((((Good.nop.seq good_num).seq (good_n1.list n1_nil)).seq (good_entry.list entry_nil)).seq (good_sess.list sess_nil)).as _ (fun x => (((((), x.epoch), x.nodes), x.paths), x.sessions)) (fun _ => rfl) (fun _ => rfl) Snap.t (fun x => by simp [Snap.t])
theorem good_inst : Good rdInst Inst.t :=
  ((((((Good.nop.seq good_num).seq good_bal).seq good_bal).seq good_cmd).seq good_num).seq (good_id.list id_nil)).as _ (fun x => (((((((), x.status), x.promise), x.voted), x.cmd), x.seq), x.deps)) (fun _ => rfl) (fun _ => rfl) Inst.t (fun x => by simp [Inst.t])
theorem good_msg : Good rdMsg Msg.t :=
  (((((((Good.nop.seq good_num).seq good_num).seq good_num).seq good_id).seq good_bal).seq good_inst).seq good_snap).as _ (fun x => ((((((((), x.kind), x.src), x.dst), x.id), x.ballot), x.inst), x.snap)) (fun _ => rfl) (fun _ => rfl) Msg.t (fun x => by simp [Msg.t])
theorem good_ii : Good rdII (fun p => p.1.t ++ p.2.t) :=
  ((Good.nop.seq good_id).seq good_inst).as _ (fun x => (((), x.1), x.2)) (fun _ => rfl) (fun _ => rfl) _ (fun x => by simp)
theorem rec_nz (l : List UInt8) : rdRec l ≠ .error 0 := by
  intro h
  unfold rdRec at h
  cases hn : rdNum l with
  | error e => rw [hn] at h; injection h with h; subst h; exact good_num.nz l hn
  | ok p =>
    rw [hn] at h
    simp only at h
    split at h
    · cases h
    · split at h
      · unfold mapS at h
        cases hs : rdSnap p.2 with
        | error e => rw [hs] at h; injection h with h; subst h; exact good_snap.nz _ hs
        | ok q => rw [hs] at h; cases h
      · unfold mapS at h
        cases hs : rdII p.2 with
        | error e => rw [hs] at h; injection h with h; subst h; exact good_ii.nz _ hs
        | ok q => rw [hs] at h; cases h

theorem wts_flat : ∀ (ts : List Tk), bads ts = false → wts ts ≤ (flat ts).length
  | [], _ => by simp
  | t :: ts, h => by
    simp only [bads_cons, Bool.or_eq_false_iff] at h
    have ih := wts_flat ts h.2
    have : t.wt ≤ t.by.length := by
      cases t with
      | num n =>
        obtain ⟨m, rfl, hm⟩ := canB_nat (n := n) (by simpa [Tk.bad] using h.1)
        have := nb_pos m
        simp only [Tk.wt, Tk.by, nbI_nat hm]; omega
      | text s => have := nb_pos s.length; simp only [Tk.wt, Tk.by, List.length_append]; omega
      | size n => exact nb_pos n
    simp only [wts_cons, flat_cons, List.length_append]
    omega
end Go.Proofs.Ytdoaglcnncapdaa.D

/- Bytes as messages, the document's reader: numbers, texts, sizes. -/
set_option linter.unusedVariables false
set_option linter.unusedSimpArgs false
set_option maxRecDepth 20000
namespace Go.Proofs.Ytdoaglcnncapdaa.D
open Go Go.Proofs.Ytdoaglcnncapdaa.V Go.Proofs.Ytdoaglcnncapdaa.N
/-- The document's reader: bytes, a place, an error. -/
def rdr (B : List UInt8) (a e : Nat) : AObj := .cells [.str B, .int .i64 (a : Nat), .int .i64 (e : Nat)]
def ISt (B : List UInt8) (st : St) (a e : Nat) : Prop :=
  a ≤ B.length ∧ match st with
  | .ok l => e = 0 ∧ B.drop a = l
  | .error e' => e' ≠ 0 ∧ e = e'
def RI (h : AHeap) (rid : Nat) (B : List UInt8) (st : St) (h1 : AHeap) : Prop := ∃ a e, h1 = h.set rid (rdr B a e) ∧ rid < h.length ∧ ISt B st a e
theorem RI.get {h : AHeap} {rid : Nat} {B : List UInt8} {st : St} {h1 : AHeap} (r : RI h rid B st h1) : ∃ a e, h1[rid]? = some (rdr B a e) ∧ ISt B st a e := by
  obtain ⟨a, e, rfl, hl, hs⟩ := r
  exact ⟨a, e, by simp [hl], hs⟩
theorem RI.now {h : AHeap} {rid : Nat} {B : List UInt8} {st : St} {h1 : AHeap} (r : RI h rid B st h1) (l : AHeap) : RI (h1 ++ l) rid B st (h1 ++ l) := by
  obtain ⟨a, e, rfl, hl, hs⟩ := r
  refine ⟨a, e, ?_, by simp; omega, hs⟩
  rw [List.set_append_left _ _ (by simpa using hl), List.set_set]
theorem RI.now0 {h : AHeap} {rid : Nat} {B : List UInt8} {st : St} {h1 : AHeap} (r : RI h rid B st h1) : RI h1 rid B st h1 := by
  have := r.now []
  simpa using this
theorem RI.step {h : AHeap} {rid : Nat} {B : List UInt8} {st st' : St} {h1 l h2 : AHeap} (r : RI h rid B st h1) (q : RI (h1 ++ l) rid B st' h2) : ∃ h3, h2 = h3 ++ l ∧ h3.length = h1.length ∧ RI h rid B st' h3 := by
  obtain ⟨a, e, rfl, hl, hs⟩ := r
  obtain ⟨a', e', rfl, hl', hs'⟩ := q
  refine ⟨h.set rid (rdr B a' e'), ?_, by simp, a', e', rfl, hl, hs'⟩
  rw [List.set_append_left _ _ (by simpa using hl), List.set_set]
theorem RI.set {h : AHeap} {rid : Nat} {B : List UInt8} {st st' : St} {h1 : AHeap} {a e : Nat} (r : RI h rid B st h1) (hs : ISt B st' a e) : RI h rid B st' (h1.set rid (rdr B a e)) := by
  obtain ⟨a', e', rfl, hl, hs'⟩ := r
  exact ⟨a, e, by rw [List.set_set], hl, hs⟩
theorem body_ri {P : Program} {rs : Array ResultVar} {h0 : AHeap} {R : AV → AHeap → Prop} {e : Exit} {n rid : Nat} {s : Slots} {B : List UInt8} {st : St} {h1 k : AHeap} {x y : AV} (ri : RI h0 rid B st h1) (he : e = .normal ∨ e = .ret) (hx : aresults P rs s (h1 ++ k) = some y) (hy : y.strip = x) (hb : Bel h1.length x) (hR : R x h1) :
    BodyPost P rs h0 R e ⟨n, s, h1 ++ k⟩ := by
  refine ⟨he, y, hx, x, .inr hy.symm, h1, k, rfl, ?_, .inr ⟨fun id o h => ?_, hb⟩, hR⟩
  · obtain ⟨a, e, rfl, hl, hs⟩ := ri; simp
  · obtain ⟨a, e, rfl, hl, hs⟩ := ri
    by_cases hi : id = rid
    · subst hi
      rw [List.getElem?_set_self hl] at h
      injection h with h
      subst h
      refine .inr fun i hi => ?_
      have : i = 0 ∨ i = 1 ∨ i = 2 := by simp [rdr] at hi; omega
      rcases this with rfl | rfl | rfl
      · exact .str _
      · exact .int _ _
      · exact .int _ _
    · rw [List.getElem?_set_ne (fun e => hi e.symm)] at h; exact .inl h
/-- Of a value: what is read, where it is read. -/
def Val {α : Type} (f : Spec α) (st : St) (x : α) : Prop := ∀ l p, st = .ok l → f l = .ok p → x = p.1
def IRd {α : Type} (f : FuncId) (s : Spec α) (av : α → AV) : Prop := ∀ (h : AHeap) (rid : Nat) (B : List UInt8) (st : St), B.length ≤ 100000 → RI h rid B st h →
  ACalls Try.prog f [.agg [.ptr rid 0]] h fun r h' => (∃ x, r = av x ∧ Val s st x) ∧ RI h rid B (runT s st) h'
theorem iend_ok (h : AHeap) (rid : Nat) (B : List UInt8) (st : St) (hB : B.length ≤ 100000) (ri : RI h rid B st h) : ACalls Try.prog 46 [.ptr rid 0] h fun r h' => r = .int .i64 (endE st) ∧ h' = h := by
  obtain ⟨a, e, hr, ha, hs⟩ := ri.get
  unfold rdr at hr
  refine acalls_of_awp Try.func46 rfl (by simp only [List.length_cons, List.length_nil]; decide) ?_
  simp only [params_cons, params_nil]
  repeat (first | ((first | refine zd ?_ | refine zx ?_ | refine zk ?_ | refine zl ?_ | refine zr ?_); refine zq ?_) | refine zs ?_ | refine zg ?_ | refine zb ?_ | refine zo ?_ | refine zt ?_ | refine zf ?_)
  cases st with
  | ok l =>
    obtain ⟨rfl, rfl⟩ := hs
    have hr0 : h[rid]? = some (.cells [.str B, .int .i64 (a : Nat), .int .i64 0]) := hr
    by_cases h1 : a < B.length
    · have h2 : (a : Int) < (B.length : Int) := by omega
      refine awp_draw (.q 0 (.q 1 (.q 2 (.a 3 (.q 4 (.q 5 (.q 6 (.q 7 (.q 8 (.q 10 (.q 11 (.q 12 (.two 9 13 (.a 13 (.q 14 (.q 15 (.q 16 (.done))))) (.q 14 (.a 9 (.q 15 (.q 16 (.done)))))))))))))))))) (by kernel_rfl) (by kernel_rfl) (tree_start (goesT_eq (by simp -implicitDefEqProofs (disch := (first | omega | (simp; done) | fail)) [if_pos, if_neg, wrap_i64, tmod_pos, tdiv_pos, Int.toNat_add, hr0, h2]; rfl) ?_))
      all_goals repeat' (first | (refine goesT_two (goesT_eq (by simp -implicitDefEqProofs (disch := (first | omega | (simp; done) | fail)) [if_pos, if_neg, wrap_i64, tmod_pos, tdiv_pos, Int.toNat_add, hr0, h2]; rfl) ?_) (goesT_eq (by simp -implicitDefEqProofs (disch := (first | omega | (simp; done) | fail)) [if_pos, if_neg, wrap_i64, tmod_pos, tdiv_pos, Int.toNat_add, hr0, h2]; rfl) ?_)) | (refine goesT_three (goesT_eq (by simp -implicitDefEqProofs (disch := (first | omega | (simp; done) | fail)) [if_pos, if_neg, wrap_i64, tmod_pos, tdiv_pos, Int.toNat_add, hr0, h2]; rfl) ?_) (goesT_eq (by simp -implicitDefEqProofs (disch := (first | omega | (simp; done) | fail)) [if_pos, if_neg, wrap_i64, tmod_pos, tdiv_pos, Int.toNat_add, hr0, h2]; rfl) ?_) (goesT_eq (by simp -implicitDefEqProofs (disch := (first | omega | (simp; done) | fail)) [if_pos, if_neg, wrap_i64, tmod_pos, tdiv_pos, Int.toNat_add, hr0, h2]; rfl) ?_)))
      all_goals
        refine goesT_done ?_
        (try simp only [vq, if_true, reduceIte, Nat.reduceEqDiff, reduceCtorEq])
        repeat (first | ((first | refine zd ?_ | refine zx ?_ | refine zk ?_ | refine zl ?_ | refine zr ?_); refine zq ?_) | refine zs ?_ | refine zg ?_ | refine zb ?_ | refine zo ?_ | refine zt ?_ | refine zf ?_)
        first | refine zY (.inr rfl) ?_ | refine zY (.inl rfl) ?_
        simp [endE, h1]
    · have h2 : ¬ (a : Int) < (B.length : Int) := by omega
      refine awp_draw (.q 0 (.q 1 (.q 2 (.a 3 (.q 4 (.q 5 (.q 6 (.q 7 (.q 8 (.q 10 (.q 11 (.q 12 (.two 9 13 (.a 13 (.q 14 (.q 15 (.q 16 (.done))))) (.q 14 (.a 9 (.q 15 (.q 16 (.done)))))))))))))))))) (by kernel_rfl) (by kernel_rfl) (tree_start (goesT_eq (by simp -implicitDefEqProofs (disch := (first | omega | (simp; done) | fail)) [if_pos, if_neg, wrap_i64, tmod_pos, tdiv_pos, Int.toNat_add, hr0, h2]; rfl) ?_))
      all_goals repeat' (first | (refine goesT_two (goesT_eq (by simp -implicitDefEqProofs (disch := (first | omega | (simp; done) | fail)) [if_pos, if_neg, wrap_i64, tmod_pos, tdiv_pos, Int.toNat_add, hr0, h2]; rfl) ?_) (goesT_eq (by simp -implicitDefEqProofs (disch := (first | omega | (simp; done) | fail)) [if_pos, if_neg, wrap_i64, tmod_pos, tdiv_pos, Int.toNat_add, hr0, h2]; rfl) ?_)) | (refine goesT_three (goesT_eq (by simp -implicitDefEqProofs (disch := (first | omega | (simp; done) | fail)) [if_pos, if_neg, wrap_i64, tmod_pos, tdiv_pos, Int.toNat_add, hr0, h2]; rfl) ?_) (goesT_eq (by simp -implicitDefEqProofs (disch := (first | omega | (simp; done) | fail)) [if_pos, if_neg, wrap_i64, tmod_pos, tdiv_pos, Int.toNat_add, hr0, h2]; rfl) ?_) (goesT_eq (by simp -implicitDefEqProofs (disch := (first | omega | (simp; done) | fail)) [if_pos, if_neg, wrap_i64, tmod_pos, tdiv_pos, Int.toNat_add, hr0, h2]; rfl) ?_)))
      all_goals
        refine goesT_done ?_
        (try simp only [vq, if_true, reduceIte, Nat.reduceEqDiff, reduceCtorEq])
        repeat (first | ((first | refine zd ?_ | refine zx ?_ | refine zk ?_ | refine zl ?_ | refine zr ?_); refine zq ?_) | refine zs ?_ | refine zh (by simp -implicitDefEqProofs (disch := (first | omega | (simp; done) | fail)) [if_pos, if_neg, wrap_i64, tmod_pos, tdiv_pos, Int.toNat_add, hr0, h2]; rfl) ?_ | refine zb ?_ | refine zo ?_ | refine zt ?_ | refine zf ?_)
        first | refine zY (.inr rfl) ?_ | refine zY (.inl rfl) ?_
        have h3 : B.length ≤ a := by omega
        simp [endE, h3]
  | error e' =>
    obtain ⟨he, rfl⟩ := hs
    have h2 : ((e : Int) == 0) = false := by simp; omega
    refine awp_draw (.q 0 (.q 1 (.q 2 (.a 3 (.q 4 (.q 5 (.q 6 (.q 7 (.q 8 (.q 10 (.q 11 (.q 12 (.two 9 13 (.a 13 (.q 14 (.q 15 (.q 16 (.done))))) (.q 14 (.a 9 (.q 15 (.q 16 (.done)))))))))))))))))) (by kernel_rfl) (by kernel_rfl) (tree_start (goesT_eq (by simp -implicitDefEqProofs (disch := (first | omega | (simp; done) | fail)) [if_pos, if_neg, wrap_i64, tmod_pos, tdiv_pos, Int.toNat_add, hr, h2]; rfl) ?_))
    all_goals repeat' (first | (refine goesT_two (goesT_eq (by simp -implicitDefEqProofs (disch := (first | omega | (simp; done) | fail)) [if_pos, if_neg, wrap_i64, tmod_pos, tdiv_pos, Int.toNat_add, hr, h2]; rfl) ?_) (goesT_eq (by simp -implicitDefEqProofs (disch := (first | omega | (simp; done) | fail)) [if_pos, if_neg, wrap_i64, tmod_pos, tdiv_pos, Int.toNat_add, hr, h2]; rfl) ?_)) | (refine goesT_three (goesT_eq (by simp -implicitDefEqProofs (disch := (first | omega | (simp; done) | fail)) [if_pos, if_neg, wrap_i64, tmod_pos, tdiv_pos, Int.toNat_add, hr, h2]; rfl) ?_) (goesT_eq (by simp -implicitDefEqProofs (disch := (first | omega | (simp; done) | fail)) [if_pos, if_neg, wrap_i64, tmod_pos, tdiv_pos, Int.toNat_add, hr, h2]; rfl) ?_) (goesT_eq (by simp -implicitDefEqProofs (disch := (first | omega | (simp; done) | fail)) [if_pos, if_neg, wrap_i64, tmod_pos, tdiv_pos, Int.toNat_add, hr, h2]; rfl) ?_)))
    all_goals
      refine goesT_done ?_
      (try simp only [vq, if_true, reduceIte, Nat.reduceEqDiff, reduceCtorEq])
      repeat (first | ((first | refine zd ?_ | refine zx ?_ | refine zk ?_ | refine zl ?_ | refine zr ?_); refine zq ?_) | refine zs ?_ | refine zh (by simp -implicitDefEqProofs (disch := (first | omega | (simp; done) | fail)) [if_pos, if_neg, wrap_i64, tmod_pos, tdiv_pos, Int.toNat_add, hr, h2]; rfl) ?_ | refine zb ?_ | refine zo ?_ | refine zt ?_ | refine zf ?_)
      first | refine zY (.inr rfl) ?_ | refine zY (.inl rfl) ?_
      simp [endE]
theorem any_numG : ∀ (f i n : Nat) (l : List UInt8), (numG f i n l).2.2 ≠ 0 → (numG f i n l).2.2 = if (l.any fun d => decide ((d.toNat : Int) < 128)) = true ∨ f ≤ l.length then 11 else 10
  | 0, i, n, l, h => by simp [numG]
  | f + 1, i, n, [], h => by simp [numG]
  | f + 1, i, n, d :: r, h => by
    unfold numG at h ⊢
    by_cases h1 : 128 ≤ d.toNat
    · rw [if_pos h1] at h ⊢
      rw [any_numG f _ _ r h]
      have h2 : decide ((d.toNat : Int) < 128) = false := by simp; omega
      simp [h2]
    · rw [if_neg h1] at h ⊢
      have h2 : decide ((d.toNat : Int) < 128) = true := by simp; omega
      split at h
      · simp at h
      · rename_i hs
        rw [if_neg hs]
        simp [h2]
theorem any_take (l : List UInt8) (j : Nat) (hj : j < l.length) (p : UInt8 → Bool) : (l.take (j + 1)).any p = ((l.take j).any p || p l[j]) := by
  rw [List.take_succ_eq_append_getElem hj, List.any_append]; simp only [List.any_cons, List.any_nil, Bool.or_false]
theorem awp_cut_block {P : Program} {E : Env P} {c : Code} {id : Nat} {N : ASt → Prop} {Q : Post} {st : ASt} (J : ASt → Prop) (h1 : AWP E c (Post.block id (Post.then J Q)) st) (h2 : ∀ s, J s → N s) : AWP E c (Post.block id (Post.then N Q)) st :=
  h1.mono fun e s hq => by
    cases e with
    | normal => exact h2 s hq
    | exit i =>
      simp only [Post.block] at hq ⊢
      split
      · rename_i e; rw [if_pos e] at hq; exact h2 s hq
      · rename_i e; rw [if_neg e] at hq; exact hq
    | _ => exact hq
theorem inum_ok (h : AHeap) (rid : Nat) (B : List UInt8) (st : St) (hB : B.length ≤ 100000) (ri : RI h rid B st h) : ACalls Try.prog 63 [.ptr rid 0] h fun r h' => r = .int .i64 (runV rdNum 0 st) ∧ RI h rid B (runT rdNum st) h' := by
  have ri0 := ri
  obtain ⟨a, e, hr, ha, hs⟩ := ri.get
  unfold rdr at hr
  cases st with
  | error e' =>
    obtain ⟨he, rfl⟩ := hs
    have h2 : ((e : Int) != 0) = true := by simp; omega
    refine acalls_of_awp Try.func63 rfl (by simp only [List.length_cons, List.length_nil]; decide) ?_
    simp only [params_cons, params_nil]
    repeat (first | ((first | refine zd ?_ | refine zx ?_ | refine zk ?_ | refine zl ?_ | refine zr ?_); refine zq ?_) | refine zs ?_ | refine zh (by simp -implicitDefEqProofs (disch := (first | omega | (simp; done) | fail)) [if_pos, if_neg, wrap_i64, tmod_pos, tdiv_pos, Int.toNat_add, hr, h2]; rfl) ?_ | refine zb ?_ | refine zo ?_ | refine zt ?_ | refine zf ?_)
    first | refine zY (.inr rfl) ?_ | refine zY (.inl rfl) ?_
    exact ⟨rfl, ri0⟩
  | ok l =>
  obtain ⟨rfl, rfl⟩ := hs
  have hr0 : h[rid]? = some (.cells [.str B, .int .i64 (a : Nat), .int .i64 0]) := hr
  generalize hl0 : B.drop a = l at *
  have hll : l.length = B.length - a := by rw [← hl0]; simp
  refine acalls_of_awp Try.func63 rfl (by simp only [List.length_cons, List.length_nil]; decide) ?_
  simp only [params_cons, params_nil]
  repeat (first | ((first | refine zd ?_ | refine zx ?_ | refine zk ?_ | refine zl ?_ | refine zr ?_); refine zq ?_) | refine zs ?_ | refine zh (by simp -implicitDefEqProofs (disch := (first | omega | (simp; done) | fail)) [if_pos, if_neg, wrap_i64, tmod_pos, tdiv_pos, Int.toNat_add, hr0]; rfl) ?_ | refine zb ?_ | refine zo ?_ | refine zt ?_ | refine zf ?_)
  refine awp_cut_block (fun st' => (numB l).2.2 ≠ 0 ∧ st'.le ⟨Try.f63.ntmps, [(0, .ptr rid 0)], h⟩) ?_ ?_
  rotate_left
  · rintro st' ⟨hne, hle⟩
    refine awp_le hle ?_
    clear hle
    have ha1 : ∀ x : AObj, (h.set rid x)[rid]? = some x := fun x => by obtain ⟨a, e, _, hl, _⟩ := ri; simp [hl]
    have ri1 := ri0.set (a := a) (e := (numB l).2.2) (st' := .error (numB l).2.2) ⟨ha, hne, rfl⟩
    have e1 : rdNum l = .error (numB l).2.2 := by unfold rdNum; rw [if_neg hne]
    have e2 := any_numG 8 0 0 l hne
    change (numB l).2.2 = _ at e2
    generalize (numB l).2.2 = ne at *
    repeat (first | ((first | refine zd ?_ | refine zx ?_ | refine zk ?_ | refine zl ?_ | refine zr ?_); refine zq ?_) | refine zs ?_ | refine zh (by simp -implicitDefEqProofs (disch := (first | omega | (simp; done) | fail)) [if_pos, if_neg, wrap_i64, tmod_pos, tdiv_pos, Int.toNat_add, hr0, ha1]; rfl) ?_ | refine zb ?_ | refine zo ?_ | refine zt ?_ | refine zf ?_)
    refine awp_cut_block (fun st' => st'.le ⟨Try.f63.ntmps, [(0, .ptr rid 0), (6, .bool (l.any fun d => decide ((d.toNat : Int) < 128)))], h.set rid (.cells [.str B, .int .i64 (a : Nat), .int .i64 11])⟩) ?_ ?_
    rotate_left
    · intro st' hle
      refine awp_le hle ?_
      clear hle
      have hlen : (B.length : Int) - (a : Int) = (l.length : Int) := by omega
      generalize (l.any fun d => decide ((d.toNat : Int) < 128)) = b at *
      have hfin : ∀ x : Nat, (if b = true ∨ 8 ≤ l.length then 11 else 10) = x → RI h rid B (runT rdNum (.ok l)) (h.set rid (.cells [.str B, .int .i64 (a : Nat), .int .i64 (x : Nat)])) := fun x hx => by
        rw [run_err e1, e2, hx]; rw [e2, hx] at ri1; exact ri1
      have hv : runV rdNum 0 (.ok l) = 0 := by simp only [runV, e1]
      by_cases h8 : (l.length : Int) < 8
      · cases b with
        | true =>
          repeat (first | ((first | refine zd ?_ | refine zx ?_ | refine zk ?_ | refine zl ?_ | refine zr ?_); refine zq ?_) | refine zs ?_ | refine zg ?_ | refine zb ?_ | refine zo ?_ | refine zt ?_ | refine zf ?_)
          refine awp_draw (.q 0 (.q 1 (.q 2 (.q 3 (.q 4 (.q 5 (.q 8 (.q 9 (.q 10 (.two 6 11 (.q 7 (.a 11 (.q 12 (.q 13 (.q 14 (.done)))))) (.a 6 (.q 7 (.q 12 (.q 13 (.q 14 (.done)))))))))))))))) (by kernel_rfl) (by kernel_rfl) (tree_start (goesT_eq (by simp -implicitDefEqProofs (disch := (first | omega | (simp; done) | fail)) [if_pos, if_neg, wrap_i64, tmod_pos, tdiv_pos, Int.toNat_add, ha1, hlen, h8]; rfl) ?_))
          all_goals repeat' (first | (refine goesT_two (goesT_eq (by simp -implicitDefEqProofs (disch := (first | omega | (simp; done) | fail)) [if_pos, if_neg, wrap_i64, tmod_pos, tdiv_pos, Int.toNat_add, ha1, hlen, h8]; rfl) ?_) (goesT_eq (by simp -implicitDefEqProofs (disch := (first | omega | (simp; done) | fail)) [if_pos, if_neg, wrap_i64, tmod_pos, tdiv_pos, Int.toNat_add, ha1, hlen, h8]; rfl) ?_)) | (refine goesT_three (goesT_eq (by simp -implicitDefEqProofs (disch := (first | omega | (simp; done) | fail)) [if_pos, if_neg, wrap_i64, tmod_pos, tdiv_pos, Int.toNat_add, ha1, hlen, h8]; rfl) ?_) (goesT_eq (by simp -implicitDefEqProofs (disch := (first | omega | (simp; done) | fail)) [if_pos, if_neg, wrap_i64, tmod_pos, tdiv_pos, Int.toNat_add, ha1, hlen, h8]; rfl) ?_) (goesT_eq (by simp -implicitDefEqProofs (disch := (first | omega | (simp; done) | fail)) [if_pos, if_neg, wrap_i64, tmod_pos, tdiv_pos, Int.toNat_add, ha1, hlen, h8]; rfl) ?_)))
          all_goals
            refine goesT_done ?_
            (try simp only [vq, if_true, reduceIte, Nat.reduceEqDiff, reduceCtorEq])
            repeat (first | ((first | refine zd ?_ | refine zx ?_ | refine zk ?_ | refine zl ?_ | refine zr ?_); refine zq ?_) | refine zs ?_ | refine zh (by simp -implicitDefEqProofs (disch := (first | omega | (simp; done) | fail)) [if_pos, if_neg, wrap_i64, tmod_pos, tdiv_pos, Int.toNat_add, ha1]; rfl) ?_ | refine zb ?_ | refine zo ?_ | refine zt ?_ | refine zf ?_)
            first | refine body_all (.inr rfl) (by simp -implicitDefEqProofs; rfl) (by simp -implicitDefEqProofs; rfl) (by first | (simp; done) | (simp; omega) | omega) ?_ | refine body_all (.inl rfl) (by simp -implicitDefEqProofs; rfl) (by simp -implicitDefEqProofs; rfl) (by first | (simp; done) | (simp; omega) | omega) ?_
            exact ⟨by rw [hv], hfin 11 (by simp)⟩
        | false =>
          repeat (first | ((first | refine zd ?_ | refine zx ?_ | refine zk ?_ | refine zl ?_ | refine zr ?_); refine zq ?_) | refine zs ?_ | refine zg ?_ | refine zb ?_ | refine zo ?_ | refine zt ?_ | refine zf ?_)
          refine awp_draw (.q 0 (.q 1 (.q 2 (.q 3 (.q 4 (.q 5 (.q 8 (.q 9 (.q 10 (.two 6 11 (.q 7 (.a 11 (.q 12 (.q 13 (.q 14 (.done)))))) (.a 6 (.q 7 (.q 12 (.q 13 (.q 14 (.done)))))))))))))))) (by kernel_rfl) (by kernel_rfl) (tree_start (goesT_eq (by simp -implicitDefEqProofs (disch := (first | omega | (simp; done) | fail)) [if_pos, if_neg, wrap_i64, tmod_pos, tdiv_pos, Int.toNat_add, ha1, hlen, h8]; rfl) ?_))
          all_goals repeat' (first | (refine goesT_two (goesT_eq (by simp -implicitDefEqProofs (disch := (first | omega | (simp; done) | fail)) [if_pos, if_neg, wrap_i64, tmod_pos, tdiv_pos, Int.toNat_add, ha1, hlen, h8]; rfl) ?_) (goesT_eq (by simp -implicitDefEqProofs (disch := (first | omega | (simp; done) | fail)) [if_pos, if_neg, wrap_i64, tmod_pos, tdiv_pos, Int.toNat_add, ha1, hlen, h8]; rfl) ?_)) | (refine goesT_three (goesT_eq (by simp -implicitDefEqProofs (disch := (first | omega | (simp; done) | fail)) [if_pos, if_neg, wrap_i64, tmod_pos, tdiv_pos, Int.toNat_add, ha1, hlen, h8]; rfl) ?_) (goesT_eq (by simp -implicitDefEqProofs (disch := (first | omega | (simp; done) | fail)) [if_pos, if_neg, wrap_i64, tmod_pos, tdiv_pos, Int.toNat_add, ha1, hlen, h8]; rfl) ?_) (goesT_eq (by simp -implicitDefEqProofs (disch := (first | omega | (simp; done) | fail)) [if_pos, if_neg, wrap_i64, tmod_pos, tdiv_pos, Int.toNat_add, ha1, hlen, h8]; rfl) ?_)))
          all_goals
            refine goesT_done ?_
            (try simp only [vq, if_true, reduceIte, Nat.reduceEqDiff, reduceCtorEq])
            repeat (first | ((first | refine zd ?_ | refine zx ?_ | refine zk ?_ | refine zl ?_ | refine zr ?_); refine zq ?_) | refine zs ?_ | refine zh (by simp -implicitDefEqProofs (disch := (first | omega | (simp; done) | fail)) [if_pos, if_neg, wrap_i64, tmod_pos, tdiv_pos, Int.toNat_add, ha1]; rfl) ?_ | refine zb ?_ | refine zo ?_ | refine zt ?_ | refine zf ?_)
            first | refine body_all (.inr rfl) (by simp -implicitDefEqProofs; rfl) (by simp -implicitDefEqProofs; rfl) (by first | (simp; done) | (simp; omega) | omega) ?_ | refine body_all (.inl rfl) (by simp -implicitDefEqProofs; rfl) (by simp -implicitDefEqProofs; rfl) (by first | (simp; done) | (simp; omega) | omega) ?_
            exact ⟨by rw [hv], by simpa using hfin 10 (by rw [if_neg (by simp; omega)])⟩
      · cases b with
        | true =>
          repeat (first | ((first | refine zd ?_ | refine zx ?_ | refine zk ?_ | refine zl ?_ | refine zr ?_); refine zq ?_) | refine zs ?_ | refine zg ?_ | refine zb ?_ | refine zo ?_ | refine zt ?_ | refine zf ?_)
          refine awp_draw (.q 0 (.q 1 (.q 2 (.q 3 (.q 4 (.q 5 (.q 8 (.q 9 (.q 10 (.two 6 11 (.q 7 (.a 11 (.q 12 (.q 13 (.q 14 (.done)))))) (.a 6 (.q 7 (.q 12 (.q 13 (.q 14 (.done)))))))))))))))) (by kernel_rfl) (by kernel_rfl) (tree_start (goesT_eq (by simp -implicitDefEqProofs (disch := (first | omega | (simp; done) | fail)) [if_pos, if_neg, wrap_i64, tmod_pos, tdiv_pos, Int.toNat_add, ha1, hlen, h8]; rfl) ?_))
          all_goals repeat' (first | (refine goesT_two (goesT_eq (by simp -implicitDefEqProofs (disch := (first | omega | (simp; done) | fail)) [if_pos, if_neg, wrap_i64, tmod_pos, tdiv_pos, Int.toNat_add, ha1, hlen, h8]; rfl) ?_) (goesT_eq (by simp -implicitDefEqProofs (disch := (first | omega | (simp; done) | fail)) [if_pos, if_neg, wrap_i64, tmod_pos, tdiv_pos, Int.toNat_add, ha1, hlen, h8]; rfl) ?_)) | (refine goesT_three (goesT_eq (by simp -implicitDefEqProofs (disch := (first | omega | (simp; done) | fail)) [if_pos, if_neg, wrap_i64, tmod_pos, tdiv_pos, Int.toNat_add, ha1, hlen, h8]; rfl) ?_) (goesT_eq (by simp -implicitDefEqProofs (disch := (first | omega | (simp; done) | fail)) [if_pos, if_neg, wrap_i64, tmod_pos, tdiv_pos, Int.toNat_add, ha1, hlen, h8]; rfl) ?_) (goesT_eq (by simp -implicitDefEqProofs (disch := (first | omega | (simp; done) | fail)) [if_pos, if_neg, wrap_i64, tmod_pos, tdiv_pos, Int.toNat_add, ha1, hlen, h8]; rfl) ?_)))
          all_goals
            refine goesT_done ?_
            (try simp only [vq, if_true, reduceIte, Nat.reduceEqDiff, reduceCtorEq])
            repeat (first | ((first | refine zd ?_ | refine zx ?_ | refine zk ?_ | refine zl ?_ | refine zr ?_); refine zq ?_) | refine zs ?_ | refine zh (by simp -implicitDefEqProofs (disch := (first | omega | (simp; done) | fail)) [if_pos, if_neg, wrap_i64, tmod_pos, tdiv_pos, Int.toNat_add, ha1]; rfl) ?_ | refine zb ?_ | refine zo ?_ | refine zt ?_ | refine zf ?_)
            first | refine body_all (.inr rfl) (by simp -implicitDefEqProofs; rfl) (by simp -implicitDefEqProofs; rfl) (by first | (simp; done) | (simp; omega) | omega) ?_ | refine body_all (.inl rfl) (by simp -implicitDefEqProofs; rfl) (by simp -implicitDefEqProofs; rfl) (by first | (simp; done) | (simp; omega) | omega) ?_
            exact ⟨by rw [hv], hfin 11 (by simp)⟩
        | false =>
          repeat (first | ((first | refine zd ?_ | refine zx ?_ | refine zk ?_ | refine zl ?_ | refine zr ?_); refine zq ?_) | refine zs ?_ | refine zg ?_ | refine zb ?_ | refine zo ?_ | refine zt ?_ | refine zf ?_)
          refine awp_draw (.q 0 (.q 1 (.q 2 (.q 3 (.q 4 (.q 5 (.q 8 (.q 9 (.q 10 (.two 6 11 (.q 7 (.a 11 (.q 12 (.q 13 (.q 14 (.done)))))) (.a 6 (.q 7 (.q 12 (.q 13 (.q 14 (.done)))))))))))))))) (by kernel_rfl) (by kernel_rfl) (tree_start (goesT_eq (by simp -implicitDefEqProofs (disch := (first | omega | (simp; done) | fail)) [if_pos, if_neg, wrap_i64, tmod_pos, tdiv_pos, Int.toNat_add, ha1, hlen, h8]; rfl) ?_))
          all_goals repeat' (first | (refine goesT_two (goesT_eq (by simp -implicitDefEqProofs (disch := (first | omega | (simp; done) | fail)) [if_pos, if_neg, wrap_i64, tmod_pos, tdiv_pos, Int.toNat_add, ha1, hlen, h8]; rfl) ?_) (goesT_eq (by simp -implicitDefEqProofs (disch := (first | omega | (simp; done) | fail)) [if_pos, if_neg, wrap_i64, tmod_pos, tdiv_pos, Int.toNat_add, ha1, hlen, h8]; rfl) ?_)) | (refine goesT_three (goesT_eq (by simp -implicitDefEqProofs (disch := (first | omega | (simp; done) | fail)) [if_pos, if_neg, wrap_i64, tmod_pos, tdiv_pos, Int.toNat_add, ha1, hlen, h8]; rfl) ?_) (goesT_eq (by simp -implicitDefEqProofs (disch := (first | omega | (simp; done) | fail)) [if_pos, if_neg, wrap_i64, tmod_pos, tdiv_pos, Int.toNat_add, ha1, hlen, h8]; rfl) ?_) (goesT_eq (by simp -implicitDefEqProofs (disch := (first | omega | (simp; done) | fail)) [if_pos, if_neg, wrap_i64, tmod_pos, tdiv_pos, Int.toNat_add, ha1, hlen, h8]; rfl) ?_)))
          all_goals
            refine goesT_done ?_
            (try simp only [vq, if_true, reduceIte, Nat.reduceEqDiff, reduceCtorEq])
            repeat (first | ((first | refine zd ?_ | refine zx ?_ | refine zk ?_ | refine zl ?_ | refine zr ?_); refine zq ?_) | refine zs ?_ | refine zh (by simp -implicitDefEqProofs (disch := (first | omega | (simp; done) | fail)) [if_pos, if_neg, wrap_i64, tmod_pos, tdiv_pos, Int.toNat_add, ha1]; rfl) ?_ | refine zb ?_ | refine zo ?_ | refine zt ?_ | refine zf ?_)
            first | refine body_all (.inr rfl) (by simp -implicitDefEqProofs; rfl) (by simp -implicitDefEqProofs; rfl) (by first | (simp; done) | (simp; omega) | omega) ?_ | refine body_all (.inl rfl) (by simp -implicitDefEqProofs; rfl) (by simp -implicitDefEqProofs; rfl) (by first | (simp; done) | (simp; omega) | omega) ?_
            exact ⟨by rw [hv], hfin 11 (by rw [if_pos (by omega)])⟩
    · repeat (first | ((first | refine zd ?_ | refine zx ?_ | refine zk ?_ | refine zl ?_ | refine zr ?_); refine zq ?_) | refine zs ?_ | refine zg ?_ | refine zb ?_ | refine zo ?_ | refine zt ?_ | refine zf ?_)
      refine awp_loop (fun n st => ∃ j : Nat, n = l.length - j ∧ j ≤ l.length ∧ st.le ⟨Try.f63.ntmps, [(0, .ptr rid 0), (6, .bool ((l.take j).any fun d => decide ((d.toNat : Int) < 128))), (7, .int .i64 ((a : Int) + (j : Int)))], h.set rid (.cells [.str B, .int .i64 (a : Nat), .int .i64 11])⟩) l.length ?_ ?_
      rotate_left
      rintro n st ⟨j, rfl, hj, hle⟩
      · refine awp_le hle ?_
        clear hle
        by_cases h9 : j = l.length
        · subst h9
          have q1 : ¬ (a : Int) + (l.length : Int) < (B.length : Int) := by omega
          repeat (first | ((first | refine zd ?_ | refine zx ?_ | refine zk ?_ | refine zl ?_ | refine zr ?_); refine zq ?_) | refine zs ?_ | refine zh (by simp -implicitDefEqProofs (disch := (first | omega | (simp; done) | fail)) [if_pos, if_neg, wrap_i64, tmod_pos, tdiv_pos, Int.toNat_add, ha1, q1]; rfl) ?_ | refine zb ?_ | refine zo ?_ | refine zt ?_ | refine zf ?_)
          exact st_keep' (by simp [List.take_length]) (by simp [List.take_length])
        have hlt : j < l.length := by omega
        have hdB : ∀ h : a + j < B.length, B[a + j] = l[j] := fun h => by
          have : B[a + j]? = (B.drop a)[j]? := by rw [List.getElem?_drop]
          rw [hl0, List.getElem?_eq_getElem hlt, List.getElem?_eq_getElem h] at this
          injection this
        have hat := any_take l j hlt (fun d => decide ((d.toNat : Int) < 128))
        have q1 : (a : Int) + (j : Int) < (B.length : Int) := by omega
        generalize l[j] = d at *
        clear hlt
        generalize (l.take j).any (fun d => decide ((d.toNat : Int) < 128)) = b at *
        cases b with
        | true =>
          repeat (first | ((first | refine zd ?_ | refine zx ?_ | refine zk ?_ | refine zl ?_ | refine zr ?_); refine zq ?_) | refine zs ?_ | refine zh (by simp -implicitDefEqProofs (disch := (first | omega | (simp; done) | fail)) [if_pos, if_neg, wrap_i64, tmod_pos, tdiv_pos, Int.toNat_add, ha1, q1, hdB]; rfl) ?_ | refine zb ?_ | refine zo ?_ | refine zt ?_ | refine zf ?_)
          exact ⟨l.length - (j + 1), by omega, j + 1, rfl, by omega, st_keep' (by simp [hat, Int.add_assoc]) (by simp [hat, Int.add_assoc])⟩
        | false =>
          repeat (first | ((first | refine zd ?_ | refine zx ?_ | refine zk ?_ | refine zl ?_ | refine zr ?_); refine zq ?_) | refine zs ?_ | refine zh (by simp -implicitDefEqProofs (disch := (first | omega | (simp; done) | fail)) [if_pos, if_neg, wrap_i64, tmod_pos, tdiv_pos, Int.toNat_add, ha1, q1, hdB]; rfl) ?_ | refine zb ?_ | refine zo ?_ | refine zt ?_ | refine zf ?_)
          exact ⟨l.length - (j + 1), by omega, j + 1, rfl, by omega, st_keep' (by simp [hat, Int.add_assoc]) (by simp [hat, Int.add_assoc])⟩
      · exact ⟨0, rfl, by omega, st_keep' (by simp []) (by simp [])⟩
  · repeat (first | ((first | refine zd ?_ | refine zx ?_ | refine zk ?_ | refine zl ?_ | refine zr ?_); refine zq ?_) | refine zs ?_ | refine zg ?_ | refine zb ?_ | refine zo ?_ | refine zt ?_ | refine zf ?_)
    refine awp_loop (fun n st => ∃ j nv w : Nat, n = 8 - j ∧ j ≤ 8 ∧ j ≤ l.length ∧ nv < w ∧ w = 128 ^ j ∧ numG (8 - j) j nv (l.drop j) = numB l ∧ st.le ⟨Try.f63.ntmps, [(0, .ptr rid 0), (3, .int .i64 (nv : Nat)), (4, .int .i64 (w : Nat)), (5, .int .i64 ((a : Int) + (j : Int)))], h⟩) 8 ?_ ?_
    rotate_left
    rintro n st ⟨j, nv, w, rfl, hj, hjl, hnv, hw, hg, hle⟩
    · refine awp_le hle ?_
      clear hle
      by_cases h8 : j = 8
      · subst h8
        have hne : (numB l).2.2 ≠ 0 := by rw [← hg]; simp [numG]
        by_cases q0 : (a : Int) + 8 < (B.length : Int)
        · repeat (first | ((first | refine zd ?_ | refine zx ?_ | refine zk ?_ | refine zl ?_ | refine zr ?_); refine zq ?_) | refine zs ?_ | refine zh (by simp -implicitDefEqProofs (disch := (first | omega | (simp; done) | fail)) [if_pos, if_neg, wrap_i64, tmod_pos, tdiv_pos, Int.toNat_add, hr0, q0]; rfl) ?_ | refine zb ?_ | refine zo ?_ | refine zt ?_ | refine zf ?_)
          exact ⟨hne, st_keep' (by simp []) (by simp [])⟩
        · repeat (first | ((first | refine zd ?_ | refine zx ?_ | refine zk ?_ | refine zl ?_ | refine zr ?_); refine zq ?_) | refine zs ?_ | refine zh (by simp -implicitDefEqProofs (disch := (first | omega | (simp; done) | fail)) [if_pos, if_neg, wrap_i64, tmod_pos, tdiv_pos, Int.toNat_add, hr0, q0]; rfl) ?_ | refine zb ?_ | refine zo ?_ | refine zt ?_ | refine zf ?_)
          exact ⟨hne, st_keep' (by simp []) (by simp [])⟩
      by_cases h9 : j = l.length
      · have hne : (numB l).2.2 ≠ 0 := by
          rw [← hg, h9, List.drop_length]
          obtain ⟨f, hf⟩ : ∃ f, 8 - l.length = f + 1 := ⟨7 - l.length, by omega⟩
          rw [hf]; simp [numG]
        have q1 : ¬ (a : Int) + (j : Int) < (B.length : Int) := by omega
        repeat (first | ((first | refine zd ?_ | refine zx ?_ | refine zk ?_ | refine zl ?_ | refine zr ?_); refine zq ?_) | refine zs ?_ | refine zh (by simp -implicitDefEqProofs (disch := (first | omega | (simp; done) | fail)) [if_pos, if_neg, wrap_i64, tmod_pos, tdiv_pos, Int.toNat_add, hr0, q1]; rfl) ?_ | refine zb ?_ | refine zo ?_ | refine zt ?_ | refine zf ?_)
        exact ⟨hne, st_keep' (by simp []) (by simp [])⟩
      have hlt : j < l.length := by omega
      have hdr : l.drop j = l[j] :: l.drop (j + 1) := List.drop_eq_getElem_cons hlt
      have hdB : ∀ h : a + j < B.length, B[a + j] = l[j] := fun h => by
        have : B[a + j]? = (B.drop a)[j]? := by rw [List.getElem?_drop]
        rw [hl0, List.getElem?_eq_getElem hlt, List.getElem?_eq_getElem h] at this
        injection this
      rw [hdr] at hg
      have q1 : (a : Int) + (j : Int) < (B.length : Int) := by omega
      have q2 : (a : Int) + (j : Int) < (a : Int) + 8 := by omega
      generalize l[j] = d at *
      have hdb := d.toNat_lt
      have hw8 : w ≤ 562949953421312 := by rw [hw]; exact Nat.pow_le_pow_right (by decide) (show j ≤ 7 by omega)
      have hp1 : d.toNat % 128 * w ≤ 127 * w := Nat.mul_le_mul_right _ (by omega)
      have hp2 : (d.toNat : Int) % 128 * (w : Int) = ((d.toNat % 128 * w : Nat) : Int) := by simp
      have hp3 : 0 ≤ (d.toNat : Int) % 128 * (w : Int) ∧ (d.toNat : Int) % 128 * (w : Int) ≤ 71494644084506624 := by omega
      obtain ⟨m, hm⟩ : ∃ m : Nat, m = nv + d.toNat % 128 * w := ⟨_, rfl⟩
      have hsum : (nv : Int) + (d.toNat : Int) % 128 * (w : Int) = (m : Int) := by omega
      rw [show 8 - j = (7 - j) + 1 by omega, numG, ← hw, ← hm] at hg
      clear hlt
      repeat (first | ((first | refine zd ?_ | refine zx ?_ | refine zk ?_ | refine zl ?_ | refine zr ?_); refine zq ?_) | refine zs ?_ | refine zh (by simp -implicitDefEqProofs (disch := (first | omega | (simp; done) | fail)) [if_pos, if_neg, wrap_i64, tmod_pos, tdiv_pos, Int.toNat_add, hr0, q1, q2, hdB]; rfl) ?_ | refine zb ?_ | refine zo ?_ | refine zt ?_ | refine zf ?_)
      refine awp_cond rfl (fun hd => ?_) (fun hd => ?_)
      · simp at hd
        rw [if_neg (by omega)] at hg
        have c := rany_ok (m : Int)
        have htd : (B.take (a + j + 1)).drop a = l.take (j + 1) := by rw [List.drop_take, hl0]; congr 1; omega
        by_cases hs : szB m = j + 1
        · rw [if_pos hs] at hg
          obtain ⟨r, hl1, hk, hm1⟩ := numB_inv hg.symm
          have heq : (nbI (m : Int) == (B.take (a + j + 1)).drop a) = true := by
            rw [htd, nbI_nat hm1, hl1, hk, List.take_left]; simp
          have e1 : rdNum l = .ok ((m : Int), l.drop (j + 1)) := by unfold rdNum; rw [← hg]; rfl
          have ri1 := ri0.set (a := a + j + 1) (e := 0) (st' := .ok (l.drop (j + 1))) ⟨by omega, rfl, by rw [← hl0, List.drop_drop]; congr 1⟩
          clear htd hg hm hp1 hp2 hp3
          refine awp_seq ?_
          refine awp_seq ?_
          refine awp_draw (.q 0 (.q 2 (.q 3 (.q 4 (.q 6 (.q 7 (.q 8 (.q 10 (.q 11 (.three 1 5 9 (.two 5 9 (.a 9 (.q 12 (.q 13 (.done)))) (.a 5 (.q 12 (.q 13 (.done))))) (.two 1 9 (.a 9 (.q 12 (.q 13 (.done)))) (.q 12 (.a 1 (.q 13 (.done))))) (.two 1 5 (.a 5 (.q 12 (.q 13 (.done)))) (.q 12 (.a 1 (.q 13 (.done))))))))))))))) (by kernel_rfl) (by kernel_rfl) (tree_start (goesT_eq (by simp -implicitDefEqProofs (disch := (first | omega | (simp; done) | fail)) [if_pos, if_neg, wrap_i64, tmod_pos, tdiv_pos, Int.toNat_add, hr0, hsum]; rfl) ?_))
          repeat' (first | (refine goesT_two (goesT_eq (by simp -implicitDefEqProofs (disch := (first | omega | (simp; done) | fail)) [if_pos, if_neg, wrap_i64, tmod_pos, tdiv_pos, Int.toNat_add, hr0, q1, heq]; rfl) ?_) (goesT_eq (by simp -implicitDefEqProofs (disch := (first | omega | (simp; done) | fail)) [if_pos, if_neg, wrap_i64, tmod_pos, tdiv_pos, Int.toNat_add, hr0, q1, heq]; rfl) ?_)) | (refine goesT_three (goesT_eq (by simp -implicitDefEqProofs (disch := (first | omega | (simp; done) | fail)) [if_pos, if_neg, wrap_i64, tmod_pos, tdiv_pos, Int.toNat_add, hr0, q1, heq]; rfl) ?_) (goesT_eq (by simp -implicitDefEqProofs (disch := (first | omega | (simp; done) | fail)) [if_pos, if_neg, wrap_i64, tmod_pos, tdiv_pos, Int.toNat_add, hr0, q1, heq]; rfl) ?_) (goesT_eq (by simp -implicitDefEqProofs (disch := (first | omega | (simp; done) | fail)) [if_pos, if_neg, wrap_i64, tmod_pos, tdiv_pos, Int.toNat_add, hr0, q1, heq]; rfl) ?_)) | (refine zP (callable_of Try.func58) _ (c _) ?_; rintro _ _ ⟨rfl, rfl⟩; refine goesT_eq (by simp -implicitDefEqProofs (disch := (first | omega | (simp; done) | fail)) [if_pos, if_neg, wrap_i64, tmod_pos, tdiv_pos, Int.toNat_add, hr0, q1, heq]; rfl) ?_))
          all_goals
            refine goesT_done ?_
            (try simp only [vq, if_true, reduceIte, Nat.reduceEqDiff, reduceCtorEq])
            repeat (first | ((first | refine zd ?_ | refine zx ?_ | refine zk ?_ | refine zl ?_ | refine zr ?_); refine zq ?_) | refine zs ?_ | refine zh (by simp -implicitDefEqProofs (disch := (first | omega | (simp; done) | fail)) [if_pos, if_neg, wrap_i64, tmod_pos, tdiv_pos, Int.toNat_add, heq, hr0]; rfl) ?_ | refine zb ?_ | refine zo ?_ | refine zt ?_ | refine zf ?_)
            first | refine body_all (.inr rfl) (by simp -implicitDefEqProofs; rfl) (by simp -implicitDefEqProofs; rfl) (by first | (simp; done) | (simp; omega) | omega) ?_ | refine body_all (.inl rfl) (by simp -implicitDefEqProofs; rfl) (by simp -implicitDefEqProofs; rfl) (by first | (simp; done) | (simp; omega) | omega) ?_
            refine ⟨by simp [runV, e1], ?_⟩
            simpa [runT, e1, rdr, Int.add_assoc] using ri1
        · rw [if_neg hs] at hg
          have hne : (numB l).2.2 ≠ 0 := by rw [← hg]; simp
          have heq : (nbI (m : Int) == (B.take (a + j + 1)).drop a) = false := by
            rw [htd]
            simp only [beq_eq_false_iff_ne, ne_eq]
            intro e
            apply hs
            have hlen : (nbI (m : Int)).length = j + 1 := by rw [e, List.length_take]; omega
            have hc : canB (m : Int) = true := by
              cases hc : canB (m : Int) with
              | true => rfl
              | false => rw [nbI, hc] at hlen; simp at hlen
            obtain ⟨m', hm', hm1⟩ := canB_nat hc
            have : m = m' := by omega
            subst this
            rw [nbI_nat hm1] at hlen
            unfold szB
            rw [if_pos hm1, hlen]
          clear htd hg hm hp1 hp2 hp3
          refine awp_seq ?_
          refine awp_seq ?_
          refine awp_draw (.q 0 (.q 2 (.q 3 (.q 4 (.q 6 (.q 7 (.q 8 (.q 10 (.q 11 (.three 1 5 9 (.two 5 9 (.a 9 (.q 12 (.q 13 (.done)))) (.a 5 (.q 12 (.q 13 (.done))))) (.two 1 9 (.a 9 (.q 12 (.q 13 (.done)))) (.q 12 (.a 1 (.q 13 (.done))))) (.two 1 5 (.a 5 (.q 12 (.q 13 (.done)))) (.q 12 (.a 1 (.q 13 (.done))))))))))))))) (by kernel_rfl) (by kernel_rfl) (tree_start (goesT_eq (by simp -implicitDefEqProofs (disch := (first | omega | (simp; done) | fail)) [if_pos, if_neg, wrap_i64, tmod_pos, tdiv_pos, Int.toNat_add, hr0, hsum]; rfl) ?_))
          repeat' (first | (refine goesT_two (goesT_eq (by simp -implicitDefEqProofs (disch := (first | omega | (simp; done) | fail)) [if_pos, if_neg, wrap_i64, tmod_pos, tdiv_pos, Int.toNat_add, hr0, q1, heq]; rfl) ?_) (goesT_eq (by simp -implicitDefEqProofs (disch := (first | omega | (simp; done) | fail)) [if_pos, if_neg, wrap_i64, tmod_pos, tdiv_pos, Int.toNat_add, hr0, q1, heq]; rfl) ?_)) | (refine goesT_three (goesT_eq (by simp -implicitDefEqProofs (disch := (first | omega | (simp; done) | fail)) [if_pos, if_neg, wrap_i64, tmod_pos, tdiv_pos, Int.toNat_add, hr0, q1, heq]; rfl) ?_) (goesT_eq (by simp -implicitDefEqProofs (disch := (first | omega | (simp; done) | fail)) [if_pos, if_neg, wrap_i64, tmod_pos, tdiv_pos, Int.toNat_add, hr0, q1, heq]; rfl) ?_) (goesT_eq (by simp -implicitDefEqProofs (disch := (first | omega | (simp; done) | fail)) [if_pos, if_neg, wrap_i64, tmod_pos, tdiv_pos, Int.toNat_add, hr0, q1, heq]; rfl) ?_)) | (refine zP (callable_of Try.func58) _ (c _) ?_; rintro _ _ ⟨rfl, rfl⟩; refine goesT_eq (by simp -implicitDefEqProofs (disch := (first | omega | (simp; done) | fail)) [if_pos, if_neg, wrap_i64, tmod_pos, tdiv_pos, Int.toNat_add, hr0, q1, heq]; rfl) ?_))
          all_goals
            refine goesT_done ?_
            (try simp only [vq, if_true, reduceIte, Nat.reduceEqDiff, reduceCtorEq])
            repeat (first | ((first | refine zd ?_ | refine zx ?_ | refine zk ?_ | refine zl ?_ | refine zr ?_); refine zq ?_) | refine zs ?_ | refine zh (by simp -implicitDefEqProofs (disch := (first | omega | (simp; done) | fail)) [if_pos, if_neg, wrap_i64, tmod_pos, tdiv_pos, Int.toNat_add, heq, hr0]; rfl) ?_ | refine zb ?_ | refine zo ?_ | refine zt ?_ | refine zf ?_)
            exact ⟨hne, st_keep' (by simp []) (by simp [])⟩
      · simp at hd
        rw [if_pos (by omega)] at hg
        repeat (first | ((first | refine zd ?_ | refine zx ?_ | refine zk ?_ | refine zl ?_ | refine zr ?_); refine zq ?_) | refine zs ?_ | refine zg ?_ | refine zb ?_ | refine zo ?_ | refine zt ?_ | refine zf ?_)
        exact ⟨8 - (j + 1), by omega, j + 1, m, w * 128, rfl, by omega, by omega, by omega, by rw [hw, Nat.pow_succ], by rw [show 8 - (j + 1) = 7 - j by omega]; exact hg, st_keep' (by simp [hsum, Int.add_assoc]) (by simp [hsum, Int.add_assoc])⟩
    · exact ⟨0, 0, 1, rfl, by omega, by omega, by omega, by simp, by simp [numB], st_keep' (by simp []) (by simp [])⟩
end Go.Proofs.Ytdoaglcnncapdaa.D

/- Bytes as messages, the document's reader: texts, sizes, and what is made of numbers. -/
set_option linter.unusedVariables false
set_option linter.unusedSimpArgs false
set_option maxRecDepth 20000
namespace Go.Proofs.Ytdoaglcnncapdaa.D
open Go Go.Proofs.Ytdoaglcnncapdaa.V Go.Proofs.Ytdoaglcnncapdaa.N
def VS {α : Type} (f : Spec α) (st : St) (x : α) (st' : St) : Prop := Val f st x ∧ runT f st = st'
theorem VS.nop {st : St} : VS nopS st () st := ⟨fun l p h1 h2 => rfl, runT_nop st⟩
theorem VS.seq {α β : Type} {f : Spec α} {g : Spec β} {st st' : St} {x : α} {y : β} (a : VS f st x st') (b : Val g st' y) : VS (seqS f g) st (x, y) (runT g st') := by
  obtain ⟨a1, rfl⟩ := a
  refine ⟨fun l p h1 h2 => ?_, by rw [runT_seq]⟩
  subst h1
  unfold seqS at h2
  cases hf : f l with
  | error e => rw [hf] at h2; cases h2
  | ok q =>
    rw [hf] at h2
    simp only at h2
    cases hg : g q.2 with
    | error e => rw [hg] at h2; cases h2
    | ok r =>
      rw [hg] at h2
      injection h2 with h2
      rw [← h2, a1 l q rfl hf, b q.2 r (by rw [run_ok hf]) hg]
theorem VS.seq2 {α β : Type} {f : Spec α} {g : Spec β} {st st' st'' : St} {x : α} {y : β} (a : VS f st x st') (b : VS g st' y st'') : VS (seqS f g) st (x, y) st'' := by
  obtain ⟨b1, rfl⟩ := b
  exact a.seq b1
theorem VS.as {α β : Type} {f : Spec α} {st st' : St} {x : α} (a : VS f st x st') (g : α → β) : VS (mapS g f) st (g x) st' := by
  obtain ⟨a1, rfl⟩ := a
  refine ⟨fun l p h1 h2 => ?_, by rw [runT_map]⟩
  unfold mapS at h2
  cases hf : f l with
  | error e => rw [hf] at h2; cases h2
  | ok q =>
    rw [hf] at h2
    injection h2 with h2
    rw [← h2, a1 l q h1 hf]
theorem VS.next {α : Type} {f : Spec α} {st st' : St} {i : Nat} {xs : List α} {x : α} (h0 : f [] = .error 10) (a : VS (rdN f i) st xs st') (b : Val f st' x) : VS (rdN f (i + 1)) st (xs ++ [x]) (runT f st') := by
  unfold rdN
  rw [gate_eq h0]
  exact (a.seq b).as (fun p => p.1 ++ [p.2])
theorem VS.next2 {α : Type} {f : Spec α} {st st' st'' : St} {i : Nat} {xs : List α} {x : α} (h0 : f [] = .error 10) (a : VS (rdN f i) st xs st') (b : VS f st' x st'') : VS (rdN f (i + 1)) st (xs ++ [x]) st'' := by
  obtain ⟨b1, rfl⟩ := b
  exact a.next h0 b1
theorem VS.none {α : Type} (f : Spec α) (st : St) : VS (rdN f 0) st [] st := ⟨fun l p h1 h2 => by injection h2 with h2; rw [← h2], by cases st <;> rfl⟩
theorem VS.done {α : Type} {f : Spec α} {st st' : St} {i n : Nat} {xs : List α} (hn : Val rdSize st n) (hi : i ≤ n) (a : VS (rdN f i) (runT rdSize st) xs st') (he : i = n ∨ ∃ e, st' = .error e) : VS (rdList f) st xs st' := by
  obtain ⟨a1, rfl⟩ := a
  cases st with
  | error e =>
    exact ⟨fun l p h1 h2 => (by cases h1), rfl⟩
  | ok l =>
    cases hs : rdSize l with
    | error e =>
      have hl : rdList f l = .error e := by simp [rdList, hs]
      refine ⟨fun l' p h1 h2 => ?_, ?_⟩
      · injection h1 with h1; subst h1; rw [hl] at h2; cases h2
      · rw [run_err hl, run_err hs]; rfl
    | ok p =>
      have hl : rdList f l = rdN f p.1 p.2 := by simp [rdList, hs]
      have hp := hn l p rfl hs
      subst hp
      have e1 : runT (rdList f) (.ok l) = runT (rdN f p.1) (.ok p.2) := by simp only [runT, hl]
      rw [run_ok hs] at a1 he ⊢
      rcases he with rfl | ⟨e, he⟩
      · refine ⟨fun l' q h1 h2 => ?_, e1⟩
        injection h1 with h1; subst h1
        rw [hl] at h2
        exact a1 p.2 q rfl h2
      · have e2 := runT_N_err f he p.1 hi
        refine ⟨fun l' q h1 h2 => ?_, by rw [e1, e2, he]⟩
        injection h1 with h1; subst h1
        rw [hl] at h2
        simp only [runT, h2] at e2
        cases e2
theorem val_run {α : Type} (f : Spec α) (d : α) (st : St) : Val f st (runV f d st) := fun l p h1 h2 => by subst h1; simp only [runV, h2]
theorem RI.len {h : AHeap} {rid : Nat} {B : List UInt8} {st : St} {h1 : AHeap} (r : RI h rid B st h1) : h1.length = h.length := by
  obtain ⟨a, e, rfl, hl, hs⟩ := r
  simp
theorem RI.getl {h : AHeap} {rid : Nat} {B : List UInt8} {st : St} {h1 : AHeap} (r : RI h rid B st h1) : ∃ a e, (∀ l, (h1 ++ l)[rid]? = some (rdr B a e)) ∧ ISt B st a e := by
  obtain ⟨a, e, rfl, hl, hs⟩ := r
  exact ⟨a, e, fun l => by rw [List.getElem?_append_left (by simpa using hl)]; simp [hl], hs⟩
theorem RI.setl {h : AHeap} {rid : Nat} {B : List UInt8} {st : St} {h1 : AHeap} (r : RI h rid B st h1) (l : AHeap) (x : AObj) : (h1 ++ l).set rid x = h1.set rid x ++ l ∧ (∀ l', (h1.set rid x ++ l')[rid]? = some x) ∧ ∀ y, (h1.set rid y ++ l).set rid x = h1.set rid x ++ l := by
  obtain ⟨a, e, rfl, hl, hs⟩ := r
  exact ⟨List.set_append_left _ _ (by simpa using hl), fun l' => by rw [List.getElem?_append_left (by simpa using hl)]; simp [hl], fun y => by rw [List.set_append_left _ _ (by simpa using hl), List.set_set]⟩
theorem itext_ok (h : AHeap) (rid : Nat) (B : List UInt8) (st : St) (hB : B.length ≤ 100000) (ri : RI h rid B st h) : ACalls Try.prog 81 [.ptr rid 0, .int .i64 4096] h fun r h' => r = .str (runV rdText [] st) ∧ RI h rid B (runT rdText st) h' := by
  obtain ⟨a, e, hr, ha, hs⟩ := ri.get
  unfold rdr at hr
  have bad : ∀ (h1 : AHeap) (e' : Nat), runT rdNum st = .error e' → RI h rid B (runT rdNum st) h1 → ∃ a1 e1 : Nat, h1[rid]? = some (.cells [.str B, .int .i64 (a1 : Nat), .int .i64 (e1 : Nat)]) ∧ ((e1 : Int) != 0) = true := by
    intro h1 e' he ri1
    obtain ⟨a1, e1, hr1, ha1, hs1⟩ := ri1.get
    rw [he] at hs1
    obtain ⟨q1, rfl⟩ := hs1
    exact ⟨a1, e1, hr1, by simp; omega⟩
  refine acalls_of_awp Try.func81 rfl (by simp only [List.length_cons, List.length_nil]; decide) ?_
  simp only [params_cons, params_nil]
  repeat (first | ((first | refine zd ?_ | refine zx ?_ | refine zk ?_ | refine zl ?_ | refine zr ?_); refine zq ?_) | refine zs ?_ | refine zh (by simp -implicitDefEqProofs (disch := (first | omega | (simp; done) | fail)) [if_pos, if_neg, wrap_i64, tmod_pos, tdiv_pos, Int.toNat_add, hr]; rfl) ?_ | refine zb ?_ | refine zo ?_ | refine zt ?_ | refine zf ?_)
  refine goes_callS (callable_of Try.func63) (by simp -implicitDefEqProofs (disch := (first | omega | (simp; done) | fail)) [if_pos, if_neg, wrap_i64, tmod_pos, tdiv_pos, Int.toNat_add] <;> first | rfl | omega) _ (inum_ok _ rid B st hB ri) ?_
  rintro _ h1 ⟨rfl, ri1⟩
  have hkl := ri1.len
  by_cases hen : ∃ e', runT rdNum st = .error e' ∧ runT rdText st = .error e' ∧ runV rdText [] st = []
  · obtain ⟨e', q1, q2, q3⟩ := hen
    obtain ⟨a1, e1, hr1, hne⟩ := bad h1 e' q1 ri1
    rw [q1] at ri1
    rw [q2, q3]
    refine ze ?_
    repeat (first | ((first | refine zd ?_ | refine zx ?_ | refine zk ?_ | refine zl ?_ | refine zr ?_); refine zq ?_) | refine zs ?_ | refine zh (by simp -implicitDefEqProofs (disch := (first | omega | (simp; done) | fail)) [if_pos, if_neg, wrap_i64, tmod_pos, tdiv_pos, Int.toNat_add, hr1, hne]; rfl) ?_ | refine zb ?_ | refine zo ?_ | refine zt ?_ | refine zf ?_)
    first | refine body_all (.inr rfl) (by simp -implicitDefEqProofs; rfl) (by simp -implicitDefEqProofs; rfl) (by first | (simp; done) | (simp; omega) | omega) ?_ | refine body_all (.inl rfl) (by simp -implicitDefEqProofs; rfl) (by simp -implicitDefEqProofs; rfl) (by first | (simp; done) | (simp; omega) | omega) ?_
    exact ⟨rfl, ri1⟩
  obtain ⟨l, rfl⟩ : ∃ l, st = .ok l := by
    cases st with
    | ok l => exact ⟨l, rfl⟩
    | error e' => exact absurd ⟨e', rfl, rfl, rfl⟩ hen
  obtain ⟨rfl, hl⟩ := hs
  have he : (numB l).2.2 = 0 := by
    refine Classical.byContradiction fun he => hen ⟨(numB l).2.2, run_err (by unfold rdNum; rw [if_neg he]), run_err (by unfold rdText; rw [if_neg he]), ?_⟩
    have : rdText l = .error (numB l).2.2 := by unfold rdText; rw [if_neg he]
    simp only [runV, this]
  clear hen bad
  have e0 : rdText l = if 4096 < (numB l).1 then .error 13 else if (l.drop (numB l).2.1).length < (numB l).1 then .error 10 else .ok ((l.drop (numB l).2.1).take (numB l).1, (l.drop (numB l).2.1).drop (numB l).1) := by unfold rdText; rw [if_pos he]
  have en : rdNum l = .ok (((numB l).1 : Nat), l.drop (numB l).2.1) := by unfold rdNum; rw [if_pos he]
  rw [run_ok en] at ri1
  have ev : runV rdNum 0 (.ok l) = ((numB l).1 : Nat) := by simp only [runV, en]
  rw [ev]
  simp only at ri1
  generalize (numB l).1 = n at *
  generalize l.drop (numB l).2.1 = r at *
  obtain ⟨a1, e1, hr1, ha1, hs1⟩ := ri1.get
  obtain ⟨rfl, hr2⟩ := hs1
  have hr1 : h1[rid]? = some (.cells [.str B, .int .i64 (a1 : Nat), .int .i64 0]) := hr1
  have hset : ∀ x : AObj, (h1.set rid x)[rid]? = some x := fun x => by have := (ri1.setl [] x).2.1 []; simpa using this
  have hrl : r.length = B.length - a1 := by rw [← hr2]; simp
  by_cases h2 : (4096 : Int) < (n : Int)
  · rw [if_pos (by omega)] at e0
    have ri2 := ri1.set (a := a) (e := 13) (st' := .error 13) ⟨ha, by decide, rfl⟩
    refine ze ?_
    repeat (first | ((first | refine zd ?_ | refine zx ?_ | refine zk ?_ | refine zl ?_ | refine zr ?_); refine zq ?_) | refine zs ?_ | refine zh (by simp -implicitDefEqProofs (disch := (first | omega | (simp; done) | fail)) [if_pos, if_neg, wrap_i64, tmod_pos, tdiv_pos, Int.toNat_add, hr1, h2, hset]; rfl) ?_ | refine zb ?_ | refine zo ?_ | refine zt ?_ | refine zf ?_)
    first | refine body_all (.inr rfl) (by simp -implicitDefEqProofs; rfl) (by simp -implicitDefEqProofs; rfl) (by first | (simp; done) | (simp; omega) | omega) ?_ | refine body_all (.inl rfl) (by simp -implicitDefEqProofs; rfl) (by simp -implicitDefEqProofs; rfl) (by first | (simp; done) | (simp; omega) | omega) ?_
    exact ⟨by simp only [runV, e0], by rw [run_err e0]; simpa [rdr] using ri2⟩
  by_cases h3 : (B.length : Int) - (a1 : Int) < (n : Int)
  · rw [if_neg (by omega), if_pos (by omega)] at e0
    have ri2 := ri1.set (a := a) (e := 10) (st' := .error 10) ⟨ha, by decide, rfl⟩
    refine ze ?_
    repeat (first | ((first | refine zd ?_ | refine zx ?_ | refine zk ?_ | refine zl ?_ | refine zr ?_); refine zq ?_) | refine zs ?_ | refine zh (by simp -implicitDefEqProofs (disch := (first | omega | (simp; done) | fail)) [if_pos, if_neg, wrap_i64, tmod_pos, tdiv_pos, Int.toNat_add, hr1, h2]; rfl) ?_ | refine zb ?_ | refine zo ?_ | refine zt ?_ | refine zf ?_)
    refine awp_draw (.q 0 (.q 1 (.q 2 (.q 3 (.q 6 (.q 7 (.q 8 (.two 4 9 (.q 5 (.a 9 (.q 10 (.q 11 (.done))))) (.a 4 (.q 5 (.q 10 (.q 11 (.done))))))))))))) (by kernel_rfl) (by kernel_rfl) (tree_start (goesT_eq (by simp -implicitDefEqProofs (disch := (first | omega | (simp; done) | fail)) [if_pos, if_neg, wrap_i64, tmod_pos, tdiv_pos, Int.toNat_add, hr1, h3]; rfl) ?_))
    all_goals repeat' (first | (refine goesT_two (goesT_eq (by simp -implicitDefEqProofs (disch := (first | omega | (simp; done) | fail)) [if_pos, if_neg, wrap_i64, tmod_pos, tdiv_pos, Int.toNat_add, hr1, h3]; rfl) ?_) (goesT_eq (by simp -implicitDefEqProofs (disch := (first | omega | (simp; done) | fail)) [if_pos, if_neg, wrap_i64, tmod_pos, tdiv_pos, Int.toNat_add, hr1, h3]; rfl) ?_)) | (refine goesT_three (goesT_eq (by simp -implicitDefEqProofs (disch := (first | omega | (simp; done) | fail)) [if_pos, if_neg, wrap_i64, tmod_pos, tdiv_pos, Int.toNat_add, hr1, h3]; rfl) ?_) (goesT_eq (by simp -implicitDefEqProofs (disch := (first | omega | (simp; done) | fail)) [if_pos, if_neg, wrap_i64, tmod_pos, tdiv_pos, Int.toNat_add, hr1, h3]; rfl) ?_) (goesT_eq (by simp -implicitDefEqProofs (disch := (first | omega | (simp; done) | fail)) [if_pos, if_neg, wrap_i64, tmod_pos, tdiv_pos, Int.toNat_add, hr1, h3]; rfl) ?_)))
    all_goals
      refine goesT_done ?_
      (try simp only [vq, if_true, reduceIte, Nat.reduceEqDiff, reduceCtorEq])
      repeat (first | ((first | refine zd ?_ | refine zx ?_ | refine zk ?_ | refine zl ?_ | refine zr ?_); refine zq ?_) | refine zs ?_ | refine zh (by simp -implicitDefEqProofs (disch := (first | omega | (simp; done) | fail)) [if_pos, if_neg, wrap_i64, tmod_pos, tdiv_pos, Int.toNat_add, hr1, hset]; rfl) ?_ | refine zb ?_ | refine zo ?_ | refine zt ?_ | refine zf ?_)
      first | refine body_all (.inr rfl) (by simp -implicitDefEqProofs; rfl) (by simp -implicitDefEqProofs; rfl) (by first | (simp; done) | (simp; omega) | omega) ?_ | refine body_all (.inl rfl) (by simp -implicitDefEqProofs; rfl) (by simp -implicitDefEqProofs; rfl) (by first | (simp; done) | (simp; omega) | omega) ?_
      exact ⟨by simp only [runV, e0], by rw [run_err e0]; simpa [rdr] using ri2⟩
  · rw [if_neg (by omega), if_neg (by omega)] at e0
    have ri2 := ri1.set (a := a1 + n) (e := 0) (st' := .ok (r.drop n)) ⟨by omega, rfl, by rw [← hr2, List.drop_drop]⟩
    have hlt : (a1 : Int) + (n : Int) ≤ (B.length : Int) := by omega
    have htd : (B.take (a1 + n)).drop a1 = r.take n := by rw [List.drop_take, hr2]; congr 1; omega
    refine ze ?_
    repeat (first | ((first | refine zd ?_ | refine zx ?_ | refine zk ?_ | refine zl ?_ | refine zr ?_); refine zq ?_) | refine zs ?_ | refine zh (by simp -implicitDefEqProofs (disch := (first | omega | (simp; done) | fail)) [if_pos, if_neg, wrap_i64, tmod_pos, tdiv_pos, Int.toNat_add, hr1, h2]; rfl) ?_ | refine zb ?_ | refine zo ?_ | refine zt ?_ | refine zf ?_)
    refine awp_draw (.q 0 (.q 1 (.q 2 (.q 3 (.q 6 (.q 7 (.q 8 (.two 4 9 (.q 5 (.a 9 (.q 10 (.q 11 (.done))))) (.a 4 (.q 5 (.q 10 (.q 11 (.done))))))))))))) (by kernel_rfl) (by kernel_rfl) (tree_start (goesT_eq (by simp -implicitDefEqProofs (disch := (first | omega | (simp; done) | fail)) [if_pos, if_neg, wrap_i64, tmod_pos, tdiv_pos, Int.toNat_add, hr1, h3]; rfl) ?_))
    all_goals repeat' (first | (refine goesT_two (goesT_eq (by simp -implicitDefEqProofs (disch := (first | omega | (simp; done) | fail)) [if_pos, if_neg, wrap_i64, tmod_pos, tdiv_pos, Int.toNat_add, hr1, h3]; rfl) ?_) (goesT_eq (by simp -implicitDefEqProofs (disch := (first | omega | (simp; done) | fail)) [if_pos, if_neg, wrap_i64, tmod_pos, tdiv_pos, Int.toNat_add, hr1, h3]; rfl) ?_)) | (refine goesT_three (goesT_eq (by simp -implicitDefEqProofs (disch := (first | omega | (simp; done) | fail)) [if_pos, if_neg, wrap_i64, tmod_pos, tdiv_pos, Int.toNat_add, hr1, h3]; rfl) ?_) (goesT_eq (by simp -implicitDefEqProofs (disch := (first | omega | (simp; done) | fail)) [if_pos, if_neg, wrap_i64, tmod_pos, tdiv_pos, Int.toNat_add, hr1, h3]; rfl) ?_) (goesT_eq (by simp -implicitDefEqProofs (disch := (first | omega | (simp; done) | fail)) [if_pos, if_neg, wrap_i64, tmod_pos, tdiv_pos, Int.toNat_add, hr1, h3]; rfl) ?_)))
    all_goals
      refine goesT_done ?_
      (try simp only [vq, if_true, reduceIte, Nat.reduceEqDiff, reduceCtorEq])
      repeat (first | ((first | refine zd ?_ | refine zx ?_ | refine zk ?_ | refine zl ?_ | refine zr ?_); refine zq ?_) | refine zs ?_ | refine zg ?_ | refine zb ?_ | refine zo ?_ | refine zt ?_ | refine zf ?_)
      refine awp_draw (.q 0 (.q 1 (.q 2 (.q 4 (.q 5 (.q 6 (.q 8 (.q 9 (.q 10 (.q 12 (.three 3 7 11 (.two 7 11 (.a 11 (.q 13 (.q 14 (.q 15 (.done))))) (.q 13 (.a 7 (.q 14 (.q 15 (.done)))))) (.two 3 11 (.a 11 (.q 13 (.q 14 (.q 15 (.done))))) (.q 13 (.a 3 (.q 14 (.q 15 (.done)))))) (.q 13 (.two 3 7 (.a 7 (.q 14 (.q 15 (.done)))) (.a 3 (.q 14 (.q 15 (.done))))))))))))))))) (by kernel_rfl) (by kernel_rfl) (tree_start (goesT_eq (by simp -implicitDefEqProofs (disch := (first | omega | (simp; done) | fail)) [if_pos, if_neg, wrap_i64, tmod_pos, tdiv_pos, Int.toNat_add, hr1, hlt]; rfl) ?_))
      all_goals repeat' (first | (refine goesT_two (goesT_eq (by simp -implicitDefEqProofs (disch := (first | omega | (simp; done) | fail)) [if_pos, if_neg, wrap_i64, tmod_pos, tdiv_pos, Int.toNat_add, hr1, hlt]; rfl) ?_) (goesT_eq (by simp -implicitDefEqProofs (disch := (first | omega | (simp; done) | fail)) [if_pos, if_neg, wrap_i64, tmod_pos, tdiv_pos, Int.toNat_add, hr1, hlt]; rfl) ?_)) | (refine goesT_three (goesT_eq (by simp -implicitDefEqProofs (disch := (first | omega | (simp; done) | fail)) [if_pos, if_neg, wrap_i64, tmod_pos, tdiv_pos, Int.toNat_add, hr1, hlt]; rfl) ?_) (goesT_eq (by simp -implicitDefEqProofs (disch := (first | omega | (simp; done) | fail)) [if_pos, if_neg, wrap_i64, tmod_pos, tdiv_pos, Int.toNat_add, hr1, hlt]; rfl) ?_) (goesT_eq (by simp -implicitDefEqProofs (disch := (first | omega | (simp; done) | fail)) [if_pos, if_neg, wrap_i64, tmod_pos, tdiv_pos, Int.toNat_add, hr1, hlt]; rfl) ?_)))
      all_goals
        refine goesT_done ?_
        (try simp only [vq, if_true, reduceIte, Nat.reduceEqDiff, reduceCtorEq])
        repeat (first | ((first | refine zd ?_ | refine zx ?_ | refine zk ?_ | refine zl ?_ | refine zr ?_); refine zq ?_) | refine zs ?_ | refine zh (by simp -implicitDefEqProofs (disch := (first | omega | (simp; done) | fail)) [if_pos, if_neg, wrap_i64, tmod_pos, tdiv_pos, Int.toNat_add, hr1, hset]; rfl) ?_ | refine zb ?_ | refine zo ?_ | refine zt ?_ | refine zf ?_)
        first | refine body_all (.inr rfl) (by simp -implicitDefEqProofs; rfl) (by simp -implicitDefEqProofs; rfl) (by first | (simp; done) | (simp; omega) | omega) ?_ | refine body_all (.inl rfl) (by simp -implicitDefEqProofs; rfl) (by simp -implicitDefEqProofs; rfl) (by first | (simp; done) | (simp; omega) | omega) ?_
        exact ⟨by simp only [runV, e0, htd], by rw [run_ok e0]; simpa [rdr] using ri2⟩
theorem inumi_ok : IRd 41 rdNum iv := by
  rintro h rid B st hB ri
  refine acalls_of_awp Try.func41 rfl (by simp only [List.length_cons, List.length_nil]; decide) ?_
  simp only [params_cons, params_nil]
  refine awp_seq ?_
  refine zg ?_
  refine goes_done ?_
  (try simp only [vq, if_true, reduceIte, Nat.reduceEqDiff, reduceCtorEq])
  refine awp_hard (id := h.length) (by simp -implicitDefEqProofs; rfl) ?_
  simp -implicitDefEqProofs only [Slots.melt, AV.melt, Nat.add_left_cancel_iff, Nat.add_eq_left, Nat.left_eq_add, Nat.reduceEqDiff, reduceIte, Nat.succ_ne_self, Nat.one_ne_zero, Nat.zero_ne_one, List.set_append_right, List.set_append_left, Nat.sub_self, Nat.le_refl, Nat.add_sub_cancel_left, Nat.le_add_right, List.set_cons_zero, List.set_cons_succ]
  repeat (first | ((first | refine zd ?_ | refine zx ?_ | refine zk ?_ | refine zl ?_ | refine zr ?_); refine zq ?_) | refine zs ?_ | refine zg ?_ | refine zb ?_ | refine zo ?_ | refine zt ?_ | refine zf ?_)
  refine goes_callS (callable_of Try.func63) (by simp -implicitDefEqProofs (disch := (first | omega | (simp; done) | fail)) [if_pos, if_neg, wrap_i64, tmod_pos, tdiv_pos, Int.toNat_add] <;> first | rfl | omega) _ (inum_ok _ rid B st hB (ri.now _)) ?_
  rintro _ _ ⟨rfl, ri'⟩
  obtain ⟨h', rfl, _, ri2⟩ := ri.step ri'
  clear ri ri'
  have ri := ri2
  clear ri2
  refine ze ?_
  repeat (first | ((first | refine zd ?_ | refine zx ?_ | refine zk ?_ | refine zl ?_ | refine zr ?_); refine zq ?_) | refine zs ?_ | refine zg ?_ | refine zb ?_ | refine zo ?_ | refine zt ?_ | refine zf ?_)
  first | refine body_ri ri (.inr rfl) (by simp -implicitDefEqProofs []; rfl) (by simp -implicitDefEqProofs []; rfl) (by simp) ?_ | refine body_ri ri (.inl rfl) (by simp -implicitDefEqProofs []; rfl) (by simp -implicitDefEqProofs []; rfl) (by simp) ?_
  exact ⟨⟨_, rfl, val_run _ _ _⟩, ri⟩
theorem itexti_ok : IRd 64 rdText .str := by
  rintro h rid B st hB ri
  refine acalls_of_awp Try.func64 rfl (by simp only [List.length_cons, List.length_nil]; decide) ?_
  simp only [params_cons, params_nil]
  refine awp_seq ?_
  refine zg ?_
  refine goes_done ?_
  (try simp only [vq, if_true, reduceIte, Nat.reduceEqDiff, reduceCtorEq])
  refine awp_hard (id := h.length) (by simp -implicitDefEqProofs; rfl) ?_
  simp -implicitDefEqProofs only [Slots.melt, AV.melt, Nat.add_left_cancel_iff, Nat.add_eq_left, Nat.left_eq_add, Nat.reduceEqDiff, reduceIte, Nat.succ_ne_self, Nat.one_ne_zero, Nat.zero_ne_one, List.set_append_right, List.set_append_left, Nat.sub_self, Nat.le_refl, Nat.add_sub_cancel_left, Nat.le_add_right, List.set_cons_zero, List.set_cons_succ]
  repeat (first | ((first | refine zd ?_ | refine zx ?_ | refine zk ?_ | refine zl ?_ | refine zr ?_); refine zq ?_) | refine zs ?_ | refine zg ?_ | refine zb ?_ | refine zo ?_ | refine zt ?_ | refine zf ?_)
  refine goes_callS (callable_of Try.func81) (by simp -implicitDefEqProofs (disch := (first | omega | (simp; done) | fail)) [if_pos, if_neg, wrap_i64, tmod_pos, tdiv_pos, Int.toNat_add] <;> first | rfl | omega) _ (itext_ok _ rid B st hB (ri.now _)) ?_
  rintro _ _ ⟨rfl, ri'⟩
  obtain ⟨h', rfl, _, ri2⟩ := ri.step ri'
  clear ri ri'
  have ri := ri2
  clear ri2
  refine ze ?_
  repeat (first | ((first | refine zd ?_ | refine zx ?_ | refine zk ?_ | refine zl ?_ | refine zr ?_); refine zq ?_) | refine zs ?_ | refine zg ?_ | refine zb ?_ | refine zo ?_ | refine zt ?_ | refine zf ?_)
  first | refine body_ri ri (.inr rfl) (by simp -implicitDefEqProofs []; rfl) (by simp -implicitDefEqProofs []; rfl) (by simp) ?_ | refine body_ri ri (.inl rfl) (by simp -implicitDefEqProofs []; rfl) (by simp -implicitDefEqProofs []; rfl) (by simp) ?_
  exact ⟨⟨_, rfl, val_run _ _ _⟩, ri⟩
theorem isz_le {α : Type} {f : Spec α} {st : St} {n i : Nat} {l : List UInt8} (hn : Val rdSize st n) (h : runT (rdN f i) (runT rdSize st) = .ok l) : n ≤ 1024 := by
  cases st with
  | error e => simp [runT] at h
  | ok l0 =>
    cases hs : rdSize l0 with
    | error e => rw [run_err hs] at h; simp [runT] at h
    | ok p =>
      rw [hn l0 p rfl hs]
      have := hs
      unfold rdSize at this
      split at this
      · split at this
        · cases this
        · injection this with this; rw [← this]; simp; omega
      · cases this
theorem getN {h : AHeap} {N : Nat} (hN : h.length = N) (l : AHeap) (k : Nat) : (h ++ l)[N + k]? = l[k]? := by
  subst hN
  rw [List.getElem?_append_right (by omega), Nat.add_sub_cancel_left]
theorem setN {h : AHeap} {N : Nat} (hN : h.length = N) (l : AHeap) (k : Nat) (x : AObj) : (h ++ l).set (N + k) x = h ++ l.set k x := by
  subst hN
  rw [List.set_append_right _ _ (by omega), Nat.add_sub_cancel_left]
theorem getN0 {h : AHeap} {N : Nat} (hN : h.length = N) (l : AHeap) : (h ++ l)[N]? = l[0]? := getN hN l 0
theorem setN0 {h : AHeap} {N : Nat} (hN : h.length = N) (l : AHeap) (x : AObj) : (h ++ l).set N x = h ++ l.set 0 x := setN hN l 0 x
theorem IRd.at_ {α : Type} {f : FuncId} {s : Spec α} {av : α → AV} (c : IRd f s av) {h h1 l : AHeap} {rid : Nat} {B : List UInt8} {st : St} (hB : B.length ≤ 100000) (ri : RI h rid B st h1) : ACalls Try.prog f [.agg [.ptr rid 0]] (h1 ++ l) fun r h' => (∃ x, r = av x ∧ Val s st x) ∧ ∃ h2, h' = h2 ++ l ∧ h2.length = h1.length ∧ RI h rid B (runT s st) h2 :=
  (c _ rid B st hB (ri.now l)).mono fun r h' ⟨q1, q2⟩ => ⟨q1, ri.step q2⟩
end Go.Proofs.Ytdoaglcnncapdaa.D

/- Bytes as messages, the document's reader: sizes, instances. -/
set_option linter.unusedVariables false
set_option linter.unusedSimpArgs false
set_option maxRecDepth 20000
namespace Go.Proofs.Ytdoaglcnncapdaa.D
open Go Go.Proofs.Ytdoaglcnncapdaa.V Go.Proofs.Ytdoaglcnncapdaa.N
def nv (n : Nat) : AV := .int .i64 (n : Nat)
theorem ilist_ok : IRd 65 rdSize nv := by
  rintro h rid B st hB ri
  obtain ⟨a, e, hg, ha, hs⟩ := ri.getl
  unfold rdr at hg
  refine acalls_of_awp Try.func65 rfl (by simp only [List.length_cons, List.length_nil]; decide) ?_
  simp only [params_cons, params_nil]
  refine awp_seq ?_
  refine zg ?_
  refine goes_done ?_
  (try simp only [vq, if_true, reduceIte, Nat.reduceEqDiff, reduceCtorEq])
  refine awp_hard (id := h.length) (by simp -implicitDefEqProofs; rfl) ?_
  simp -implicitDefEqProofs only [Slots.melt, AV.melt, Nat.add_left_cancel_iff, Nat.add_eq_left, Nat.left_eq_add, Nat.reduceEqDiff, reduceIte, Nat.succ_ne_self, Nat.one_ne_zero, Nat.zero_ne_one, List.set_append_right, List.set_append_left, Nat.sub_self, Nat.le_refl, Nat.add_sub_cancel_left, Nat.le_add_right, List.set_cons_zero, List.set_cons_succ]
  repeat (first | ((first | refine zd ?_ | refine zx ?_ | refine zk ?_ | refine zl ?_ | refine zr ?_); refine zq ?_) | refine zs ?_ | refine zh (by simp -implicitDefEqProofs (disch := (first | omega | (simp; done) | fail)) [if_pos, if_neg, wrap_i64, tmod_pos, tdiv_pos, Int.toNat_add, hg]; rfl) ?_ | refine zb ?_ | refine zo ?_ | refine zt ?_ | refine zf ?_)
  refine goes_callS (callable_of Try.func63) (by simp -implicitDefEqProofs (disch := (first | omega | (simp; done) | fail)) [if_pos, if_neg, wrap_i64, tmod_pos, tdiv_pos, Int.toNat_add] <;> first | rfl | omega) _ (inum_ok _ rid B _ hB (ri.now _)) ?_
  rintro _ _ ⟨rfl, ri'⟩
  obtain ⟨h', rfl, _, ri2⟩ := ri.step ri'
  clear ri ri'
  have ri := ri2
  clear ri2
  refine ze ?_
  by_cases hen : ∃ e', runT rdNum st = .error e' ∧ runT rdSize st = .error e' ∧ runV rdNum 0 st = 0 ∧ Val rdSize st 0
  · obtain ⟨e', q1, q2, q3, q4⟩ := hen
    obtain ⟨a1, e1, hg1, ha1, hs1⟩ := ri.getl
    unfold rdr at hg1
    rw [q1] at hs1 ri
    obtain ⟨q5, rfl⟩ := hs1
    have hne : ((e1 : Int) == 0) = false := by simp; omega
    rw [q2, q3]
    repeat (first | ((first | refine zd ?_ | refine zx ?_ | refine zk ?_ | refine zl ?_ | refine zr ?_); refine zq ?_) | refine zs ?_ | refine zh (by simp -implicitDefEqProofs (disch := (first | omega | (simp; done) | fail)) [if_pos, if_neg, wrap_i64, tmod_pos, tdiv_pos, Int.toNat_add, hg1, hne]; rfl) ?_ | refine zb ?_ | refine zo ?_ | refine zt ?_ | refine zf ?_)
    first | refine body_ri ri (.inr rfl) (by simp -implicitDefEqProofs []; rfl) (by simp -implicitDefEqProofs []; rfl) (by simp) ?_ | refine body_ri ri (.inl rfl) (by simp -implicitDefEqProofs []; rfl) (by simp -implicitDefEqProofs []; rfl) (by simp) ?_
    exact ⟨⟨0, rfl, q4⟩, ri⟩
  obtain ⟨l, rfl⟩ : ∃ l, st = .ok l := by
    cases st with
    | ok l => exact ⟨l, rfl⟩
    | error e' => exact absurd ⟨e', rfl, rfl, rfl, fun l p h1 h2 => by cases h1⟩ hen
  have he : (numB l).2.2 = 0 := by
    refine Classical.byContradiction fun he => hen ?_
    have e1 : rdSize l = .error (numB l).2.2 := by unfold rdSize; rw [if_neg he]
    have e2 : rdNum l = .error (numB l).2.2 := by unfold rdNum; rw [if_neg he]
    exact ⟨(numB l).2.2, run_err e2, run_err e1, by simp only [runV, e2], fun l' p h1 h2 => by injection h1 with h1; subst h1; rw [e1] at h2; cases h2⟩
  clear hen
  have e0 : rdSize l = if 1024 < (numB l).1 then .error 13 else .ok ((numB l).1, l.drop (numB l).2.1) := by unfold rdSize; rw [if_pos he]
  have en : rdNum l = .ok (((numB l).1 : Nat), l.drop (numB l).2.1) := by unfold rdNum; rw [if_pos he]
  have ev : runV rdNum 0 (.ok l) = ((numB l).1 : Nat) := by simp only [runV, en]
  rw [run_ok en] at ri
  rw [ev]
  simp only at ri
  generalize (numB l).1 = n at *
  generalize l.drop (numB l).2.1 = r at *
  obtain ⟨a1, e1, hg1, ha1, hs1⟩ := ri.getl
  obtain ⟨rfl, hr2⟩ := hs1
  have hg1 : ∀ l : AHeap, (h' ++ l)[rid]? = some (.cells [.str B, .int .i64 (a1 : Nat), .int .i64 0]) := hg1
  by_cases h2 : (1024 : Int) < (n : Int)
  · rw [if_pos (by omega)] at e0
    have ri2 := ri.set (a := a) (e := 13) (st' := .error 13) ⟨ha, by decide, rfl⟩
    have hs1 := fun l x => (ri.setl l x).1
    have hs2 := fun x => (ri.setl [] x).2.1
    have hs3 := fun l x => (ri.setl l x).2.2
    rw [run_err e0]
    have hv : Val rdSize (.ok l) 0 := fun l' p h1 h2 => by injection h1 with h1; subst h1; rw [e0] at h2; cases h2
    clear ri
    have ri : RI h rid B (.error 13) (h'.set rid (.cells [.str B, .int .i64 (a : Nat), .int .i64 13])) := ri2
    clear ri2
    repeat (first | ((first | refine zd ?_ | refine zx ?_ | refine zk ?_ | refine zl ?_ | refine zr ?_); refine zq ?_) | refine zs ?_ | refine zh (by simp -implicitDefEqProofs (disch := (first | omega | (simp; done) | fail)) [if_pos, if_neg, wrap_i64, tmod_pos, tdiv_pos, Int.toNat_add, hg1, h2, hs1, hs2, hs3]; rfl) ?_ | refine zb ?_ | refine zo ?_ | refine zt ?_ | refine zf ?_)
    first | refine body_ri ri (.inr rfl) (by simp -implicitDefEqProofs []; rfl) (by simp -implicitDefEqProofs []; rfl) (by simp) ?_ | refine body_ri ri (.inl rfl) (by simp -implicitDefEqProofs []; rfl) (by simp -implicitDefEqProofs []; rfl) (by simp) ?_
    exact ⟨⟨0, rfl, hv⟩, ri⟩
  · rw [if_neg (by omega)] at e0
    rw [run_ok e0]
    repeat (first | ((first | refine zd ?_ | refine zx ?_ | refine zk ?_ | refine zl ?_ | refine zr ?_); refine zq ?_) | refine zs ?_ | refine zh (by simp -implicitDefEqProofs (disch := (first | omega | (simp; done) | fail)) [if_pos, if_neg, wrap_i64, tmod_pos, tdiv_pos, Int.toNat_add, hg1, h2]; rfl) ?_ | refine zb ?_ | refine zo ?_ | refine zt ?_ | refine zf ?_)
    first | refine body_ri ri (.inr rfl) (by simp -implicitDefEqProofs []; rfl) (by simp -implicitDefEqProofs []; rfl) (by simp) ?_ | refine body_ri ri (.inl rfl) (by simp -implicitDefEqProofs []; rfl) (by simp -implicitDefEqProofs []; rfl) (by simp) ?_
    exact ⟨⟨n, rfl, fun l' p h1 h2 => by injection h1 with h1; subst h1; rw [e0] at h2; injection h2 with h2; rw [← h2]⟩, ri⟩
theorem iid_ok : IRd 42 rdId Iid.av := by
  rintro h rid B st hB ri
  refine acalls_of_awp Try.func42 rfl (by simp only [List.length_cons, List.length_nil]; decide) ?_
  simp only [params_cons, params_nil]
  obtain ⟨N, hN⟩ : ∃ N, h.length = N := ⟨_, rfl⟩
  refine awp_seq ?_
  refine zg ?_
  refine goes_done ?_
  (try simp only [vq, if_true, reduceIte, Nat.reduceEqDiff, reduceCtorEq])
  refine awp_hard (id := h.length) (by simp -implicitDefEqProofs; rfl) ?_
  simp -implicitDefEqProofs only [Slots.melt, AV.melt, Nat.add_left_cancel_iff, Nat.add_eq_left, Nat.left_eq_add, Nat.reduceEqDiff, reduceIte, Nat.succ_ne_self, Nat.one_ne_zero, Nat.zero_ne_one, List.set_append_right, List.set_append_left, Nat.sub_self, Nat.le_refl, Nat.add_sub_cancel_left, Nat.le_add_right, List.set_cons_zero, List.set_cons_succ]
  rw [hN]
  repeat (first | ((first | refine zd ?_ | refine zx ?_ | refine zk ?_ | refine zl ?_ | refine zr ?_); refine zq ?_) | refine zs ?_ | refine zh (by simp -implicitDefEqProofs (disch := (first | omega | (simp; done) | fail)) [if_pos, if_neg, wrap_i64, tmod_pos, tdiv_pos, Int.toNat_add, hN, getN hN, setN hN, getN0 hN, setN0 hN]; rfl) ?_ | refine zb ?_ | refine zo ?_ | refine zt ?_ | refine zf ?_)
  refine goes_callS (callable_of Try.func41) (by simp -implicitDefEqProofs (disch := (first | omega | (simp; done) | fail)) [if_pos, if_neg, wrap_i64, tmod_pos, tdiv_pos, Int.toNat_add] <;> first | rfl | omega) _ (inumi_ok.at_ hB ri) ?_
  rintro _ _ ⟨⟨x1, rfl, vx1⟩, h', rfl, hl', ri2⟩
  clear ri
  have ri := ri2
  replace hN := hl'.trans hN
  clear ri2 hl'
  refine goes_eq (by simp -implicitDefEqProofs (disch := (first | omega | (simp; done) | fail)) [if_pos, if_neg, wrap_i64, tmod_pos, tdiv_pos, Int.toNat_add, hN, getN hN, setN hN, getN0 hN, setN0 hN]; rfl) ?_
  repeat (first | ((first | refine zd ?_ | refine zx ?_ | refine zk ?_ | refine zl ?_ | refine zr ?_); refine zq ?_) | refine zs ?_ | refine zh (by simp -implicitDefEqProofs (disch := (first | omega | (simp; done) | fail)) [if_pos, if_neg, wrap_i64, tmod_pos, tdiv_pos, Int.toNat_add, hN, getN hN, setN hN, getN0 hN, setN0 hN]; rfl) ?_ | refine zb ?_ | refine zo ?_ | refine zt ?_ | refine zf ?_)
  refine goes_callS (callable_of Try.func41) (by simp -implicitDefEqProofs (disch := (first | omega | (simp; done) | fail)) [if_pos, if_neg, wrap_i64, tmod_pos, tdiv_pos, Int.toNat_add] <;> first | rfl | omega) _ (inumi_ok.at_ hB ri) ?_
  rintro _ _ ⟨⟨x2, rfl, vx2⟩, h', rfl, hl', ri2⟩
  clear ri
  have ri := ri2
  replace hN := hl'.trans hN
  clear ri2 hl'
  refine goes_eq (by simp -implicitDefEqProofs (disch := (first | omega | (simp; done) | fail)) [if_pos, if_neg, wrap_i64, tmod_pos, tdiv_pos, Int.toNat_add, hN, getN hN, setN hN, getN0 hN, setN0 hN]; rfl) ?_
  repeat (first | ((first | refine zd ?_ | refine zx ?_ | refine zk ?_ | refine zl ?_ | refine zr ?_); refine zq ?_) | refine zs ?_ | refine zh (by simp -implicitDefEqProofs (disch := (first | omega | (simp; done) | fail)) [if_pos, if_neg, wrap_i64, tmod_pos, tdiv_pos, Int.toNat_add, hN, getN hN, setN hN, getN0 hN, setN0 hN]; rfl) ?_ | refine zb ?_ | refine zo ?_ | refine zt ?_ | refine zf ?_)
  refine goes_callS (callable_of Try.func41) (by simp -implicitDefEqProofs (disch := (first | omega | (simp; done) | fail)) [if_pos, if_neg, wrap_i64, tmod_pos, tdiv_pos, Int.toNat_add] <;> first | rfl | omega) _ (inumi_ok.at_ hB ri) ?_
  rintro _ _ ⟨⟨x3, rfl, vx3⟩, h', rfl, hl', ri2⟩
  clear ri
  have ri := ri2
  replace hN := hl'.trans hN
  clear ri2 hl'
  refine goes_eq (by simp -implicitDefEqProofs (disch := (first | omega | (simp; done) | fail)) [if_pos, if_neg, wrap_i64, tmod_pos, tdiv_pos, Int.toNat_add, hN, getN hN, setN hN, getN0 hN, setN0 hN]; rfl) ?_
  repeat (first | ((first | refine zd ?_ | refine zx ?_ | refine zk ?_ | refine zl ?_ | refine zr ?_); refine zq ?_) | refine zs ?_ | refine zh (by simp -implicitDefEqProofs (disch := (first | omega | (simp; done) | fail)) [if_pos, if_neg, wrap_i64, tmod_pos, tdiv_pos, Int.toNat_add, hN, getN hN, setN hN, getN0 hN, setN0 hN]; rfl) ?_ | refine zb ?_ | refine zo ?_ | refine zt ?_ | refine zf ?_)
  have vs : VS rdId st ⟨x1, x2, x3⟩ _ := (((VS.nop.seq vx1).seq vx2).seq vx3).as _
  first | refine body_ri ri (.inr rfl) (by simp -implicitDefEqProofs [hN, getN hN, setN hN, getN0 hN, setN0 hN]; rfl) (by simp -implicitDefEqProofs [hN, getN hN, setN hN, getN0 hN, setN0 hN]; rfl) (by simp) ?_ | refine body_ri ri (.inl rfl) (by simp -implicitDefEqProofs [hN, getN hN, setN hN, getN0 hN, setN0 hN]; rfl) (by simp -implicitDefEqProofs [hN, getN hN, setN hN, getN0 hN, setN0 hN]; rfl) (by simp) ?_
  exact ⟨⟨_, rfl, vs.1⟩, by rw [vs.2]; exact ri⟩
def Bal.av' (x : Bal) : AV := .agg x.c
theorem ibal_ok : IRd 43 rdBal Bal.av' := by
  rintro h rid B st hB ri
  refine acalls_of_awp Try.func43 rfl (by simp only [List.length_cons, List.length_nil]; decide) ?_
  simp only [params_cons, params_nil]
  obtain ⟨N, hN⟩ : ∃ N, h.length = N := ⟨_, rfl⟩
  refine awp_seq ?_
  refine zg ?_
  refine goes_done ?_
  (try simp only [vq, if_true, reduceIte, Nat.reduceEqDiff, reduceCtorEq])
  refine awp_hard (id := h.length) (by simp -implicitDefEqProofs; rfl) ?_
  simp -implicitDefEqProofs only [Slots.melt, AV.melt, Nat.add_left_cancel_iff, Nat.add_eq_left, Nat.left_eq_add, Nat.reduceEqDiff, reduceIte, Nat.succ_ne_self, Nat.one_ne_zero, Nat.zero_ne_one, List.set_append_right, List.set_append_left, Nat.sub_self, Nat.le_refl, Nat.add_sub_cancel_left, Nat.le_add_right, List.set_cons_zero, List.set_cons_succ]
  rw [hN]
  repeat (first | ((first | refine zd ?_ | refine zx ?_ | refine zk ?_ | refine zl ?_ | refine zr ?_); refine zq ?_) | refine zs ?_ | refine zh (by simp -implicitDefEqProofs (disch := (first | omega | (simp; done) | fail)) [if_pos, if_neg, wrap_i64, tmod_pos, tdiv_pos, Int.toNat_add, hN, getN hN, setN hN, getN0 hN, setN0 hN]; rfl) ?_ | refine zb ?_ | refine zo ?_ | refine zt ?_ | refine zf ?_)
  refine goes_callS (callable_of Try.func41) (by simp -implicitDefEqProofs (disch := (first | omega | (simp; done) | fail)) [if_pos, if_neg, wrap_i64, tmod_pos, tdiv_pos, Int.toNat_add] <;> first | rfl | omega) _ (inumi_ok.at_ hB ri) ?_
  rintro _ _ ⟨⟨x1, rfl, vx1⟩, h', rfl, hl', ri2⟩
  clear ri
  have ri := ri2
  replace hN := hl'.trans hN
  clear ri2 hl'
  refine goes_eq (by simp -implicitDefEqProofs (disch := (first | omega | (simp; done) | fail)) [if_pos, if_neg, wrap_i64, tmod_pos, tdiv_pos, Int.toNat_add, hN, getN hN, setN hN, getN0 hN, setN0 hN]; rfl) ?_
  repeat (first | ((first | refine zd ?_ | refine zx ?_ | refine zk ?_ | refine zl ?_ | refine zr ?_); refine zq ?_) | refine zs ?_ | refine zh (by simp -implicitDefEqProofs (disch := (first | omega | (simp; done) | fail)) [if_pos, if_neg, wrap_i64, tmod_pos, tdiv_pos, Int.toNat_add, hN, getN hN, setN hN, getN0 hN, setN0 hN]; rfl) ?_ | refine zb ?_ | refine zo ?_ | refine zt ?_ | refine zf ?_)
  refine goes_callS (callable_of Try.func41) (by simp -implicitDefEqProofs (disch := (first | omega | (simp; done) | fail)) [if_pos, if_neg, wrap_i64, tmod_pos, tdiv_pos, Int.toNat_add] <;> first | rfl | omega) _ (inumi_ok.at_ hB ri) ?_
  rintro _ _ ⟨⟨x2, rfl, vx2⟩, h', rfl, hl', ri2⟩
  clear ri
  have ri := ri2
  replace hN := hl'.trans hN
  clear ri2 hl'
  refine goes_eq (by simp -implicitDefEqProofs (disch := (first | omega | (simp; done) | fail)) [if_pos, if_neg, wrap_i64, tmod_pos, tdiv_pos, Int.toNat_add, hN, getN hN, setN hN, getN0 hN, setN0 hN]; rfl) ?_
  repeat (first | ((first | refine zd ?_ | refine zx ?_ | refine zk ?_ | refine zl ?_ | refine zr ?_); refine zq ?_) | refine zs ?_ | refine zh (by simp -implicitDefEqProofs (disch := (first | omega | (simp; done) | fail)) [if_pos, if_neg, wrap_i64, tmod_pos, tdiv_pos, Int.toNat_add, hN, getN hN, setN hN, getN0 hN, setN0 hN]; rfl) ?_ | refine zb ?_ | refine zo ?_ | refine zt ?_ | refine zf ?_)
  have vs : VS rdBal st ⟨x1, x2⟩ _ := ((VS.nop.seq vx1).seq vx2).as _
  first | refine body_ri ri (.inr rfl) (by simp -implicitDefEqProofs [hN, getN hN, setN hN, getN0 hN, setN0 hN]; rfl) (by simp -implicitDefEqProofs [hN, getN hN, setN hN, getN0 hN, setN0 hN]; rfl) (by simp) ?_ | refine body_ri ri (.inl rfl) (by simp -implicitDefEqProofs [hN, getN hN, setN hN, getN0 hN, setN0 hN]; rfl) (by simp -implicitDefEqProofs [hN, getN hN, setN hN, getN0 hN, setN0 hN]; rfl) (by simp) ?_
  exact ⟨⟨_, rfl, vs.1⟩, by rw [vs.2]; exact ri⟩
end Go.Proofs.Ytdoaglcnncapdaa.D

/- Bytes as messages, the document's reader: instances. -/
set_option linter.unusedVariables false
set_option linter.unusedSimpArgs false
set_option maxRecDepth 20000
namespace Go.Proofs.Ytdoaglcnncapdaa.D
open Go Go.Proofs.Ytdoaglcnncapdaa.V Go.Proofs.Ytdoaglcnncapdaa.N
def Inst.av' (x : Inst) : AV := .agg x.c
theorem iinst_ok : IRd 44 rdInst Inst.av' := by
  rintro h rid B st hB ri
  refine acalls_of_awp Try.func44 rfl (by simp only [List.length_cons, List.length_nil]; decide) ?_
  simp only [params_cons, params_nil]
  obtain ⟨N, hN⟩ : ∃ N, h.length = N := ⟨_, rfl⟩
  refine awp_seq ?_
  refine zg ?_
  refine goes_done ?_
  (try simp only [vq, if_true, reduceIte, Nat.reduceEqDiff, reduceCtorEq])
  refine awp_hard (id := h.length) (by simp -implicitDefEqProofs; rfl) ?_
  simp -implicitDefEqProofs only [Slots.melt, AV.melt, Nat.add_left_cancel_iff, Nat.add_eq_left, Nat.left_eq_add, Nat.reduceEqDiff, reduceIte, Nat.succ_ne_self, Nat.one_ne_zero, Nat.zero_ne_one, List.set_append_right, List.set_append_left, Nat.sub_self, Nat.le_refl, Nat.add_sub_cancel_left, Nat.le_add_right, List.set_cons_zero, List.set_cons_succ]
  rw [hN]
  repeat (first | ((first | refine zd ?_ | refine zx ?_ | refine zk ?_ | refine zl ?_ | refine zr ?_); refine zq ?_) | refine zs ?_ | refine zh (by simp -implicitDefEqProofs (disch := (first | omega | (simp; done) | fail)) [if_pos, if_neg, wrap_i64, tmod_pos, tdiv_pos, Int.toNat_add, hN, getN hN, setN hN, getN0 hN, setN0 hN]; rfl) ?_ | refine zb ?_ | refine zo ?_ | refine zt ?_ | refine zf ?_)
  refine goes_callS (callable_of Try.func41) (by simp -implicitDefEqProofs (disch := (first | omega | (simp; done) | fail)) [if_pos, if_neg, wrap_i64, tmod_pos, tdiv_pos, Int.toNat_add] <;> first | rfl | omega) _ (inumi_ok.at_ hB ri) ?_
  rintro _ _ ⟨⟨x1, rfl, vx1⟩, h', rfl, hl', ri2⟩
  clear ri
  have ri := ri2
  replace hN := hl'.trans hN
  clear ri2 hl'
  refine goes_eq (by simp -implicitDefEqProofs (disch := (first | omega | (simp; done) | fail)) [if_pos, if_neg, wrap_i64, tmod_pos, tdiv_pos, Int.toNat_add, hN, getN hN, setN hN, getN0 hN, setN0 hN]; rfl) ?_
  repeat (first | ((first | refine zd ?_ | refine zx ?_ | refine zk ?_ | refine zl ?_ | refine zr ?_); refine zq ?_) | refine zs ?_ | refine zh (by simp -implicitDefEqProofs (disch := (first | omega | (simp; done) | fail)) [if_pos, if_neg, wrap_i64, tmod_pos, tdiv_pos, Int.toNat_add, hN, getN hN, setN hN, getN0 hN, setN0 hN]; rfl) ?_ | refine zb ?_ | refine zo ?_ | refine zt ?_ | refine zf ?_)
  refine goes_callS (callable_of Try.func43) (by simp -implicitDefEqProofs (disch := (first | omega | (simp; done) | fail)) [if_pos, if_neg, wrap_i64, tmod_pos, tdiv_pos, Int.toNat_add, Bal.av', Bal.c] <;> first | rfl | omega) _ (ibal_ok.at_ hB ri) ?_
  rintro _ _ ⟨⟨x2, rfl, vx2⟩, h', rfl, hl', ri2⟩
  clear ri
  have ri := ri2
  replace hN := hl'.trans hN
  clear ri2 hl'
  refine goes_eq (by simp -implicitDefEqProofs (disch := (first | omega | (simp; done) | fail)) [if_pos, if_neg, wrap_i64, tmod_pos, tdiv_pos, Int.toNat_add, hN, getN hN, setN hN, getN0 hN, setN0 hN, Bal.av', Bal.c]; rfl) ?_
  repeat (first | ((first | refine zd ?_ | refine zx ?_ | refine zk ?_ | refine zl ?_ | refine zr ?_); refine zq ?_) | refine zs ?_ | refine zh (by simp -implicitDefEqProofs (disch := (first | omega | (simp; done) | fail)) [if_pos, if_neg, wrap_i64, tmod_pos, tdiv_pos, Int.toNat_add, hN, getN hN, setN hN, getN0 hN, setN0 hN]; rfl) ?_ | refine zb ?_ | refine zo ?_ | refine zt ?_ | refine zf ?_)
  refine goes_callS (callable_of Try.func43) (by simp -implicitDefEqProofs (disch := (first | omega | (simp; done) | fail)) [if_pos, if_neg, wrap_i64, tmod_pos, tdiv_pos, Int.toNat_add, Bal.av', Bal.c] <;> first | rfl | omega) _ (ibal_ok.at_ hB ri) ?_
  rintro _ _ ⟨⟨x3, rfl, vx3⟩, h', rfl, hl', ri2⟩
  clear ri
  have ri := ri2
  replace hN := hl'.trans hN
  clear ri2 hl'
  refine goes_eq (by simp -implicitDefEqProofs (disch := (first | omega | (simp; done) | fail)) [if_pos, if_neg, wrap_i64, tmod_pos, tdiv_pos, Int.toNat_add, hN, getN hN, setN hN, getN0 hN, setN0 hN, Bal.av', Bal.c]; rfl) ?_
  repeat (first | ((first | refine zd ?_ | refine zx ?_ | refine zk ?_ | refine zl ?_ | refine zr ?_); refine zq ?_) | refine zs ?_ | refine zh (by simp -implicitDefEqProofs (disch := (first | omega | (simp; done) | fail)) [if_pos, if_neg, wrap_i64, tmod_pos, tdiv_pos, Int.toNat_add, hN, getN hN, setN hN, getN0 hN, setN0 hN]; rfl) ?_ | refine zb ?_ | refine zo ?_ | refine zt ?_ | refine zf ?_)
  refine goes_callS (callable_of Try.func41) (by simp -implicitDefEqProofs (disch := (first | omega | (simp; done) | fail)) [if_pos, if_neg, wrap_i64, tmod_pos, tdiv_pos, Int.toNat_add] <;> first | rfl | omega) _ (inumi_ok.at_ hB ri) ?_
  rintro _ _ ⟨⟨y1, rfl, vy1⟩, h', rfl, hl', ri2⟩
  clear ri
  have ri := ri2
  replace hN := hl'.trans hN
  clear ri2 hl'
  refine goes_eq (by simp -implicitDefEqProofs (disch := (first | omega | (simp; done) | fail)) [if_pos, if_neg, wrap_i64, tmod_pos, tdiv_pos, Int.toNat_add, hN, getN hN, setN hN, getN0 hN, setN0 hN]; rfl) ?_
  repeat (first | ((first | refine zd ?_ | refine zx ?_ | refine zk ?_ | refine zl ?_ | refine zr ?_); refine zq ?_) | refine zs ?_ | refine zh (by simp -implicitDefEqProofs (disch := (first | omega | (simp; done) | fail)) [if_pos, if_neg, wrap_i64, tmod_pos, tdiv_pos, Int.toNat_add, hN, getN hN, setN hN, getN0 hN, setN0 hN]; rfl) ?_ | refine zb ?_ | refine zo ?_ | refine zt ?_ | refine zf ?_)
  refine goes_callS (callable_of Try.func41) (by simp -implicitDefEqProofs (disch := (first | omega | (simp; done) | fail)) [if_pos, if_neg, wrap_i64, tmod_pos, tdiv_pos, Int.toNat_add] <;> first | rfl | omega) _ (inumi_ok.at_ hB ri) ?_
  rintro _ _ ⟨⟨y2, rfl, vy2⟩, h', rfl, hl', ri2⟩
  clear ri
  have ri := ri2
  replace hN := hl'.trans hN
  clear ri2 hl'
  refine goes_eq (by simp -implicitDefEqProofs (disch := (first | omega | (simp; done) | fail)) [if_pos, if_neg, wrap_i64, tmod_pos, tdiv_pos, Int.toNat_add, hN, getN hN, setN hN, getN0 hN, setN0 hN]; rfl) ?_
  repeat (first | ((first | refine zd ?_ | refine zx ?_ | refine zk ?_ | refine zl ?_ | refine zr ?_); refine zq ?_) | refine zs ?_ | refine zh (by simp -implicitDefEqProofs (disch := (first | omega | (simp; done) | fail)) [if_pos, if_neg, wrap_i64, tmod_pos, tdiv_pos, Int.toNat_add, hN, getN hN, setN hN, getN0 hN, setN0 hN]; rfl) ?_ | refine zb ?_ | refine zo ?_ | refine zt ?_ | refine zf ?_)
  refine goes_callS (callable_of Try.func41) (by simp -implicitDefEqProofs (disch := (first | omega | (simp; done) | fail)) [if_pos, if_neg, wrap_i64, tmod_pos, tdiv_pos, Int.toNat_add] <;> first | rfl | omega) _ (inumi_ok.at_ hB ri) ?_
  rintro _ _ ⟨⟨y3, rfl, vy3⟩, h', rfl, hl', ri2⟩
  clear ri
  have ri := ri2
  replace hN := hl'.trans hN
  clear ri2 hl'
  refine goes_eq (by simp -implicitDefEqProofs (disch := (first | omega | (simp; done) | fail)) [if_pos, if_neg, wrap_i64, tmod_pos, tdiv_pos, Int.toNat_add, hN, getN hN, setN hN, getN0 hN, setN0 hN]; rfl) ?_
  repeat (first | ((first | refine zd ?_ | refine zx ?_ | refine zk ?_ | refine zl ?_ | refine zr ?_); refine zq ?_) | refine zs ?_ | refine zh (by simp -implicitDefEqProofs (disch := (first | omega | (simp; done) | fail)) [if_pos, if_neg, wrap_i64, tmod_pos, tdiv_pos, Int.toNat_add, hN, getN hN, setN hN, getN0 hN, setN0 hN]; rfl) ?_ | refine zb ?_ | refine zo ?_ | refine zt ?_ | refine zf ?_)
  refine goes_callS (callable_of Try.func64) (by simp -implicitDefEqProofs (disch := (first | omega | (simp; done) | fail)) [if_pos, if_neg, wrap_i64, tmod_pos, tdiv_pos, Int.toNat_add] <;> first | rfl | omega) _ (itexti_ok.at_ hB ri) ?_
  rintro _ _ ⟨⟨y4, rfl, vy4⟩, h', rfl, hl', ri2⟩
  clear ri
  have ri := ri2
  replace hN := hl'.trans hN
  clear ri2 hl'
  refine goes_eq (by simp -implicitDefEqProofs (disch := (first | omega | (simp; done) | fail)) [if_pos, if_neg, wrap_i64, tmod_pos, tdiv_pos, Int.toNat_add, hN, getN hN, setN hN, getN0 hN, setN0 hN]; rfl) ?_
  repeat (first | ((first | refine zd ?_ | refine zx ?_ | refine zk ?_ | refine zl ?_ | refine zr ?_); refine zq ?_) | refine zs ?_ | refine zh (by simp -implicitDefEqProofs (disch := (first | omega | (simp; done) | fail)) [if_pos, if_neg, wrap_i64, tmod_pos, tdiv_pos, Int.toNat_add, hN, getN hN, setN hN, getN0 hN, setN0 hN]; rfl) ?_ | refine zb ?_ | refine zo ?_ | refine zt ?_ | refine zf ?_)
  refine goes_callS (callable_of Try.func64) (by simp -implicitDefEqProofs (disch := (first | omega | (simp; done) | fail)) [if_pos, if_neg, wrap_i64, tmod_pos, tdiv_pos, Int.toNat_add] <;> first | rfl | omega) _ (itexti_ok.at_ hB ri) ?_
  rintro _ _ ⟨⟨y5, rfl, vy5⟩, h', rfl, hl', ri2⟩
  clear ri
  have ri := ri2
  replace hN := hl'.trans hN
  clear ri2 hl'
  refine goes_eq (by simp -implicitDefEqProofs (disch := (first | omega | (simp; done) | fail)) [if_pos, if_neg, wrap_i64, tmod_pos, tdiv_pos, Int.toNat_add, hN, getN hN, setN hN, getN0 hN, setN0 hN]; rfl) ?_
  repeat (first | ((first | refine zd ?_ | refine zx ?_ | refine zk ?_ | refine zl ?_ | refine zr ?_); refine zq ?_) | refine zs ?_ | refine zh (by simp -implicitDefEqProofs (disch := (first | omega | (simp; done) | fail)) [if_pos, if_neg, wrap_i64, tmod_pos, tdiv_pos, Int.toNat_add, hN, getN hN, setN hN, getN0 hN, setN0 hN]; rfl) ?_ | refine zb ?_ | refine zo ?_ | refine zt ?_ | refine zf ?_)
  refine goes_callS (callable_of Try.func41) (by simp -implicitDefEqProofs (disch := (first | omega | (simp; done) | fail)) [if_pos, if_neg, wrap_i64, tmod_pos, tdiv_pos, Int.toNat_add] <;> first | rfl | omega) _ (inumi_ok.at_ hB ri) ?_
  rintro _ _ ⟨⟨y6, rfl, vy6⟩, h', rfl, hl', ri2⟩
  clear ri
  have ri := ri2
  replace hN := hl'.trans hN
  clear ri2 hl'
  refine goes_eq (by simp -implicitDefEqProofs (disch := (first | omega | (simp; done) | fail)) [if_pos, if_neg, wrap_i64, tmod_pos, tdiv_pos, Int.toNat_add, hN, getN hN, setN hN, getN0 hN, setN0 hN]; rfl) ?_
  repeat (first | ((first | refine zd ?_ | refine zx ?_ | refine zk ?_ | refine zl ?_ | refine zr ?_); refine zq ?_) | refine zs ?_ | refine zh (by simp -implicitDefEqProofs (disch := (first | omega | (simp; done) | fail)) [if_pos, if_neg, wrap_i64, tmod_pos, tdiv_pos, Int.toNat_add, hN, getN hN, setN hN, getN0 hN, setN0 hN]; rfl) ?_ | refine zb ?_ | refine zo ?_ | refine zt ?_ | refine zf ?_)
  refine goes_callS (callable_of Try.func41) (by simp -implicitDefEqProofs (disch := (first | omega | (simp; done) | fail)) [if_pos, if_neg, wrap_i64, tmod_pos, tdiv_pos, Int.toNat_add] <;> first | rfl | omega) _ (inumi_ok.at_ hB ri) ?_
  rintro _ _ ⟨⟨y7, rfl, vy7⟩, h', rfl, hl', ri2⟩
  clear ri
  have ri := ri2
  replace hN := hl'.trans hN
  clear ri2 hl'
  refine goes_eq (by simp -implicitDefEqProofs (disch := (first | omega | (simp; done) | fail)) [if_pos, if_neg, wrap_i64, tmod_pos, tdiv_pos, Int.toNat_add, hN, getN hN, setN hN, getN0 hN, setN0 hN]; rfl) ?_
  repeat (first | ((first | refine zd ?_ | refine zx ?_ | refine zk ?_ | refine zl ?_ | refine zr ?_); refine zq ?_) | refine zs ?_ | refine zh (by simp -implicitDefEqProofs (disch := (first | omega | (simp; done) | fail)) [if_pos, if_neg, wrap_i64, tmod_pos, tdiv_pos, Int.toNat_add, hN, getN hN, setN hN, getN0 hN, setN0 hN]; rfl) ?_ | refine zb ?_ | refine zo ?_ | refine zt ?_ | refine zf ?_)
  refine goes_callS (callable_of Try.func41) (by simp -implicitDefEqProofs (disch := (first | omega | (simp; done) | fail)) [if_pos, if_neg, wrap_i64, tmod_pos, tdiv_pos, Int.toNat_add] <;> first | rfl | omega) _ (inumi_ok.at_ hB ri) ?_
  rintro _ _ ⟨⟨y8, rfl, vy8⟩, h', rfl, hl', ri2⟩
  clear ri
  have ri := ri2
  replace hN := hl'.trans hN
  clear ri2 hl'
  refine goes_eq (by simp -implicitDefEqProofs (disch := (first | omega | (simp; done) | fail)) [if_pos, if_neg, wrap_i64, tmod_pos, tdiv_pos, Int.toNat_add, hN, getN hN, setN hN, getN0 hN, setN0 hN]; rfl) ?_
  repeat (first | ((first | refine zd ?_ | refine zx ?_ | refine zk ?_ | refine zl ?_ | refine zr ?_); refine zq ?_) | refine zs ?_ | refine zh (by simp -implicitDefEqProofs (disch := (first | omega | (simp; done) | fail)) [if_pos, if_neg, wrap_i64, tmod_pos, tdiv_pos, Int.toNat_add, hN, getN hN, setN hN, getN0 hN, setN0 hN]; rfl) ?_ | refine zb ?_ | refine zo ?_ | refine zt ?_ | refine zf ?_)
  refine goes_callS (callable_of Try.func41) (by simp -implicitDefEqProofs (disch := (first | omega | (simp; done) | fail)) [if_pos, if_neg, wrap_i64, tmod_pos, tdiv_pos, Int.toNat_add] <;> first | rfl | omega) _ (inumi_ok.at_ hB ri) ?_
  rintro _ _ ⟨⟨x5, rfl, vx5⟩, h', rfl, hl', ri2⟩
  clear ri
  have ri := ri2
  replace hN := hl'.trans hN
  clear ri2 hl'
  refine goes_eq (by simp -implicitDefEqProofs (disch := (first | omega | (simp; done) | fail)) [if_pos, if_neg, wrap_i64, tmod_pos, tdiv_pos, Int.toNat_add, hN, getN hN, setN hN, getN0 hN, setN0 hN]; rfl) ?_
  repeat (first | ((first | refine zd ?_ | refine zx ?_ | refine zk ?_ | refine zl ?_ | refine zr ?_); refine zq ?_) | refine zs ?_ | refine zh (by simp -implicitDefEqProofs (disch := (first | omega | (simp; done) | fail)) [if_pos, if_neg, wrap_i64, tmod_pos, tdiv_pos, Int.toNat_add, hN, getN hN, setN hN, getN0 hN, setN0 hN]; rfl) ?_ | refine zb ?_ | refine zo ?_ | refine zt ?_ | refine zf ?_)
  refine goes_callS (callable_of Try.func65) (by simp -implicitDefEqProofs (disch := (first | omega | (simp; done) | fail)) [if_pos, if_neg, wrap_i64, tmod_pos, tdiv_pos, Int.toNat_add, nv] <;> first | rfl | omega) _ (ilist_ok.at_ hB ri) ?_
  rintro _ _ ⟨⟨n, rfl, vn⟩, h', rfl, hl', ri2⟩
  clear ri
  have ri := ri2
  replace hN := hl'.trans hN
  clear ri2 hl'
  refine goes_eq (by simp -implicitDefEqProofs (disch := (first | omega | (simp; done) | fail)) [if_pos, if_neg, wrap_i64, tmod_pos, tdiv_pos, Int.toNat_add, hN, getN hN, setN hN, getN0 hN, setN0 hN, nv]; rfl) ?_
  have vs0 := (((((VS.nop.seq vx1).seq vx2).seq vx3).seq2 (((((((((VS.nop.seq vy1).seq vy2).seq vy3).seq vy4).seq vy5).seq vy6).seq vy7).seq vy8).as (fun p => (⟨p.1.1.1.1.1.1.1.2, p.1.1.1.1.1.1.2, p.1.1.1.1.1.2, p.1.1.1.1.2, p.1.1.1.2, p.1.1.2, p.1.2, p.2⟩ : Cmd)))).seq vx5)
  generalize runT rdNum (runT rdNum (runT rdNum (runT rdNum (runT rdText (runT rdText (runT rdNum (runT rdNum (runT rdNum (runT rdBal (runT rdBal (runT rdNum st))))))))))) = st5 at *
  clear vx1 vx2 vx3 vy1 vy2 vy3 vy4 vy5 vy6 vy7 vy8 vx5
  refine goes_done ?_
  repeat (first | ((first | refine zd ?_ | refine zx ?_ | refine zk ?_ | refine zl ?_ | refine zr ?_); refine zq ?_) | refine zs ?_ | refine zh (by simp -implicitDefEqProofs (disch := (first | omega | (simp; done) | fail)) [if_pos, if_neg, wrap_i64, tmod_pos, tdiv_pos, Int.toNat_add, hN, getN hN, setN hN, getN0 hN, setN0 hN]; rfl) ?_ | refine zb ?_ | refine zo ?_ | refine zt ?_ | refine zf ?_)
  refine awp_cut_block (fun st' => ∃ (i : Nat) (xs : List Iid) (st2 : St) (h2 X : AHeap) (tok : Tok), i ≤ n ∧ (xs = [] → tok = .full) ∧ VS (rdN rdId i) (runT rdSize st5) xs st2 ∧ (i = n ∨ ∃ e, st2 = .error e) ∧ RI h rid B st2 h2 ∧ h2.length = N ∧ st'.le ⟨Try.f44.ntmps, [(1, .ref [.ptr rid 0] 0), (2, .ptr (N + 1) 0), (3, .ptr (N + 2) 0)], h2 ++ (.dead :: .cells [iv 0, iv 0, iv 0, iv 0, iv 0, iv 0, iv 0, iv 0, .str [], .str [], iv 0, iv 0, iv 0, iv 0, .list [] .full] :: .cells [iv x1, iv x2.no, iv x2.node, iv x3.no, iv x3.node, iv y1, iv y2, iv y3, .str y4, .str y5, iv y6, iv y7, iv y8, iv x5, .list (xs.map Iid.av) tok] :: X)⟩) ?_ ?_
  · refine awp_loop (fun z st => ∃ (i : Nat) (xs : List Iid) (st2 : St) (h2 X : AHeap) (tok : Tok), z = n - i ∧ i ≤ n ∧ xs.length = i ∧ (xs = [] → tok = .full) ∧ VS (rdN rdId i) (runT rdSize st5) xs st2 ∧ RI h rid B st2 h2 ∧ h2.length = N ∧ TokAt N 3 X 24 3 tok ∧ st.le ⟨Try.f44.ntmps, [(1, .ref [.ptr rid 0] 0), (2, .ptr (N + 1) 0), (3, .ptr (N + 2) 0), (4, .int .i64 (n : Nat)), (5, .int .i64 (i : Nat))], h2 ++ (.dead :: .cells [iv 0, iv 0, iv 0, iv 0, iv 0, iv 0, iv 0, iv 0, .str [], .str [], iv 0, iv 0, iv 0, iv 0, .list [] .full] :: .cells [iv x1, iv x2.no, iv x2.node, iv x3.no, iv x3.node, iv y1, iv y2, iv y3, .str y4, .str y5, iv y6, iv y7, iv y8, iv x5, .list (xs.map Iid.av) tok] :: X)⟩) n ?_ ?_
    · exact ⟨0, [], _, h', [], .full, rfl, Nat.zero_le _, rfl, fun _ => rfl, VS.none _ _, ri, hN, .full, st_keep' (by simp []) (by simp [])⟩
    rintro z st ⟨i, xs, st2, h2, X, tok, rfl, hi, hxl, hft, va, ri2, hN2, ht, hle⟩
    refine awp_le hle ?_
    clear hle ri hN
    have ri := ri2
    have hN := hN2
    clear ri2 hN2
    by_cases hin : i = n
    · subst hin
      repeat (first | ((first | refine zd ?_ | refine zx ?_ | refine zk ?_ | refine zl ?_ | refine zr ?_); refine zq ?_) | refine zs ?_ | refine zh (by simp -implicitDefEqProofs (disch := (first | omega | (simp; done) | fail)) [if_pos, if_neg, wrap_i64, tmod_pos, tdiv_pos, Int.toNat_add, hN, getN hN, setN hN, getN0 hN, setN0 hN]; rfl) ?_ | refine zb ?_ | refine zo ?_ | refine zt ?_ | refine zf ?_)
      exact ⟨i, xs, st2, h2, X, tok, Nat.le_refl _, hft, va, .inl rfl, ri, hN, st_keep' (by simp []) (by simp [])⟩
    have q1 : (i : Int) < (n : Int) := by omega
    obtain ⟨a, e, hg, ha, hs⟩ := ri.getl
    unfold rdr at hg
    rcases st2 with e' | l
    · obtain ⟨he, rfl⟩ := hs
      have q2 : ((e : Int) == 0) = false := by simp; omega
      repeat (first | ((first | refine zd ?_ | refine zx ?_ | refine zk ?_ | refine zl ?_ | refine zr ?_); refine zq ?_) | refine zs ?_ | refine zh (by simp -implicitDefEqProofs (disch := (first | omega | (simp; done) | fail)) [if_pos, if_neg, wrap_i64, tmod_pos, tdiv_pos, Int.toNat_add, hN, getN hN, setN hN, getN0 hN, setN0 hN, hg, q1, q2]; rfl) ?_ | refine zb ?_ | refine zo ?_ | refine zt ?_ | refine zf ?_)
      exact ⟨i, xs, _, h2, X, tok, hi, hft, va, .inr ⟨_, rfl⟩, ri, hN, st_keep' (by simp []) (by simp [])⟩
    obtain ⟨rfl, _⟩ := hs
    have hg : ∀ l : AHeap, (h2 ++ l)[rid]? = some (.cells [.str B, .int .i64 (a : Nat), .int .i64 0]) := hg
    repeat (first | ((first | refine zd ?_ | refine zx ?_ | refine zk ?_ | refine zl ?_ | refine zr ?_); refine zq ?_) | refine zs ?_ | refine zh (by simp -implicitDefEqProofs (disch := (first | omega | (simp; done) | fail)) [if_pos, if_neg, wrap_i64, tmod_pos, tdiv_pos, Int.toNat_add, hN, getN hN, setN hN, getN0 hN, setN0 hN, hg, q1]; rfl) ?_ | refine zb ?_ | refine zo ?_ | refine zt ?_ | refine zf ?_)
    clear hg
    have hu := idl_uni xs
    have hx1 := isz_le vn va.2
    have hx2 : (xs.length + 1) * 24 ≤ 140737488355328 := by omega
    have hx3 : xs.length ≤ 140737488355327 := by omega
    rcases ht with rfl | ⟨j, rfl, hj⟩
    · refine awp_draw (.q 0 (.q 1 (.q 3 (.two 2 4 (.a 4 (.a 5 (.a 6 (.q 7 (.q 8 (.a 9 (.done))))))) (.two 2 5 (.a 5 (.a 6 (.q 7 (.q 8 (.a 9 (.done)))))) (.a 2 (.a 6 (.q 7 (.q 8 (.a 9 (.done))))))))))) (by kernel_rfl) (by kernel_rfl) (tree_start (goesT_eq (by simp -implicitDefEqProofs (disch := (first | omega | (simp; done) | fail)) [if_pos, if_neg, wrap_i64, tmod_pos, tdiv_pos, Int.toNat_add, hN, getN hN, setN hN, getN0 hN, setN0 hN]; rfl) ?_))
      repeat' (first | (refine goesT_two (goesT_eq (by simp -implicitDefEqProofs (disch := (first | omega | (simp; done) | fail)) [if_pos, if_neg, wrap_i64, tmod_pos, tdiv_pos, Int.toNat_add, hN, getN hN, setN hN, getN0 hN, setN0 hN, hu, hx2, hx3, Iid.av, Iid.c]; rfl) ?_) (goesT_eq (by simp -implicitDefEqProofs (disch := (first | omega | (simp; done) | fail)) [if_pos, if_neg, wrap_i64, tmod_pos, tdiv_pos, Int.toNat_add, hN, getN hN, setN hN, getN0 hN, setN0 hN, hu, hx2, hx3, Iid.av, Iid.c]; rfl) ?_)) | (refine goesT_callS (callable_of Try.func42) (by simp -implicitDefEqProofs (disch := (first | omega | (simp; done) | fail)) [if_pos, if_neg, wrap_i64, tmod_pos, tdiv_pos, Int.toNat_add] <;> first | rfl | omega) _ (iid_ok.at_ hB ri) ?_; rintro _ _ ⟨⟨x, rfl, vx⟩, h', rfl, hl', ri2⟩; clear ri; have ri := ri2; replace hN := hl'.trans hN; clear ri2 hl'; refine goesT_eq (by simp -implicitDefEqProofs (disch := (first | omega | (simp; done) | fail)) [if_pos, if_neg, wrap_i64, tmod_pos, tdiv_pos, Int.toNat_add, hN, getN hN, setN hN, getN0 hN, setN0 hN, hu, hx2, hx3, Iid.av, Iid.c]; rfl) ?_))
      all_goals
        refine goesT_done ?_
        (try simp only [vq, if_true, reduceIte, Nat.reduceEqDiff, reduceCtorEq])
        repeat (first | ((first | refine zd ?_ | refine zx ?_ | refine zk ?_ | refine zl ?_ | refine zr ?_); refine zq ?_) | refine zs ?_ | refine zg ?_ | refine zb ?_ | refine zo ?_ | refine zt ?_ | refine zf ?_)
        exact ⟨n - (i + 1), by omega, i + 1, xs ++ [x], _, h', X ++ [.tail 24 3], .own (N + (X.length + 3)), rfl, by omega, by simp [hxl], (fun h => by simp at h), va.next id_nil vx, ri, hN, .new (by simp), st_keep' (by simp [Iid.av, Iid.c]) (by simp [Iid.av, Iid.c])⟩
    · refine awp_draw (.q 0 (.q 1 (.q 3 (.two 2 4 (.a 4 (.a 5 (.a 6 (.q 7 (.q 8 (.a 9 (.done))))))) (.two 2 5 (.a 5 (.a 6 (.q 7 (.q 8 (.a 9 (.done)))))) (.a 2 (.a 6 (.q 7 (.q 8 (.a 9 (.done))))))))))) (by kernel_rfl) (by kernel_rfl) (tree_start (goesT_eq (by simp -implicitDefEqProofs (disch := (first | omega | (simp; done) | fail)) [if_pos, if_neg, wrap_i64, tmod_pos, tdiv_pos, Int.toNat_add, hN, getN hN, setN hN, getN0 hN, setN0 hN]; rfl) ?_))
      repeat' (first | (refine goesT_two (goesT_eq (by simp -implicitDefEqProofs (disch := (first | omega | (simp; done) | fail)) [if_pos, if_neg, wrap_i64, tmod_pos, tdiv_pos, Int.toNat_add, hN, getN hN, setN hN, getN0 hN, setN0 hN, hj, hu, hx2, hx3, Iid.av, Iid.c]; rfl) ?_) (goesT_eq (by simp -implicitDefEqProofs (disch := (first | omega | (simp; done) | fail)) [if_pos, if_neg, wrap_i64, tmod_pos, tdiv_pos, Int.toNat_add, hN, getN hN, setN hN, getN0 hN, setN0 hN, hj, hu, hx2, hx3, Iid.av, Iid.c]; rfl) ?_)) | (refine goesT_callS (callable_of Try.func42) (by simp -implicitDefEqProofs (disch := (first | omega | (simp; done) | fail)) [if_pos, if_neg, wrap_i64, tmod_pos, tdiv_pos, Int.toNat_add] <;> first | rfl | omega) _ (iid_ok.at_ hB ri) ?_; rintro _ _ ⟨⟨x, rfl, vx⟩, h', rfl, hl', ri2⟩; clear ri; have ri := ri2; replace hN := hl'.trans hN; clear ri2 hl'; refine goesT_eq (by simp -implicitDefEqProofs (disch := (first | omega | (simp; done) | fail)) [if_pos, if_neg, wrap_i64, tmod_pos, tdiv_pos, Int.toNat_add, hN, getN hN, setN hN, getN0 hN, setN0 hN, hj, hu, hx2, hx3, Iid.av, Iid.c]; rfl) ?_))
      all_goals
        refine goesT_done ?_
        (try simp only [vq, if_true, reduceIte, Nat.reduceEqDiff, reduceCtorEq])
        repeat (first | ((first | refine zd ?_ | refine zx ?_ | refine zk ?_ | refine zl ?_ | refine zr ?_); refine zq ?_) | refine zs ?_ | refine zg ?_ | refine zb ?_ | refine zo ?_ | refine zt ?_ | refine zf ?_)
        exact ⟨n - (i + 1), by omega, i + 1, xs ++ [x], _, h', X.set j .dead ++ [.tail 24 3], .own (N + (X.length + 3)), rfl, by omega, by simp [hxl], (fun h => by simp at h), va.next id_nil vx, ri, hN, .new (by simp), st_keep' (by simp [Iid.av, Iid.c]) (by simp [Iid.av, Iid.c])⟩
  rintro st' ⟨i', xs, st2, h2', X, tok, hi', hft', va', hie', ri2, hN2, hle⟩
  refine awp_le hle ?_
  clear hle ri hN
  have ri := ri2
  have hN := hN2
  clear ri2 hN2
  have vd := VS.done vn hi' va' hie'
  clear va' hie' vn hi'
  have vs : VS rdInst st ⟨x1, x2, x3, ⟨y1, y2, y3, y4, y5, y6, y7, y8⟩, x5, xs⟩ st2 := (vs0.seq2 vd).as _
  repeat (first | ((first | refine zd ?_ | refine zx ?_ | refine zk ?_ | refine zl ?_ | refine zr ?_); refine zq ?_) | refine zs ?_ | refine zh (by simp -implicitDefEqProofs (disch := (first | omega | (simp; done) | fail)) [if_pos, if_neg, wrap_i64, tmod_pos, tdiv_pos, Int.toNat_add, hN, getN hN, setN hN, getN0 hN, setN0 hN]; rfl) ?_ | refine zb ?_ | refine zo ?_ | refine zt ?_ | refine zf ?_)
  first | refine body_ri ri (.inr rfl) (by simp -implicitDefEqProofs [hN, getN hN, setN hN, getN0 hN, setN0 hN]; rfl) (by simp -implicitDefEqProofs [hN, getN hN, setN hN, getN0 hN, setN0 hN]; rfl) (by simp) ?_ | refine body_ri ri (.inl rfl) (by simp -implicitDefEqProofs [hN, getN hN, setN hN, getN0 hN, setN0 hN]; rfl) (by simp -implicitDefEqProofs [hN, getN hN, setN hN, getN0 hN, setN0 hN]; rfl) (by simp) ?_
  exact ⟨⟨_, rfl, vs.1⟩, by rw [vs.2]; exact ri⟩
end Go.Proofs.Ytdoaglcnncapdaa.D
