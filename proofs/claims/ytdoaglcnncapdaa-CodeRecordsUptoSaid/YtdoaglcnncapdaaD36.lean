import Derived.Test.YtdoaglcnncapdaaDD
/- Messages as bytes: beginnings are short; what is wrong is told. The plain law. -/
set_option linter.unusedVariables false
set_option linter.unusedSimpArgs false
namespace Go.Proofs.Ytdoaglcnncapdaa.D
open Go Go.Proofs.Ytdoaglcnncapdaa.V Go.Proofs.Ytdoaglcnncapdaa.N
structure Good {α : Type} (f : Spec α) (t : α → List Tk) : Prop where
  both : Both f t
  nz : ∀ l, f l ≠ .error 0
  cut : ∀ x c, bads (t x) = false → c < (flat (t x)).length → f ((flat (t x)).take c) = .error 10
theorem numG_cut : ∀ (m f i n0 c : Nat), c < (nb m).length → (nb m).length ≤ f → numG f i n0 ((nb m).take c) = (0, 0, 10) := by
  intro m
  induction m using Nat.strongRecOn with
  | ind m ih =>
    intro f i n0 c hc hf
    cases c with
    | zero =>
      cases f with
      | zero => omega
      | succ f => rfl
    | succ c =>
      by_cases h : m < 128
      · rw [nb_small h] at hc; simp at hc
      · rw [nb_big (by omega)] at hc hf ⊢
        simp only [List.length_cons] at hc hf
        cases f with
        | zero => omega
        | succ f =>
          simp only [List.take_succ_cons, numG]
          rw [if_pos (by rw [b8n_toNat]; omega)]
          exact ih (m / 128) (by omega) f _ _ c (by omega) (by omega)
theorem numB_cut {n c : Nat} (hn : n ≤ 281474976710656) (hc : c < (nb n).length) : numB ((nb n).take c) = (0, 0, 10) :=
  numG_cut n 8 0 0 c hc (Nat.le_trans (nb_len_k 6 n (by omega)) (by decide))
theorem take_app_lt {α : Type} {a b : List α} {c : Nat} (h : c < a.length) : (a ++ b).take c = a.take c := by
  rw [List.take_append_of_le_length (by omega)]
theorem take_app_ge {α : Type} {a b : List α} {c : Nat} (h : ¬ c < a.length) : (a ++ b).take c = a ++ b.take (c - a.length) := by
  rw [List.take_append, List.take_of_length_le (by omega)]
theorem Good.nop : Good nopS (fun _ => []) := ⟨both_nop, fun l h => (by cases h), fun x c _ h => by simp at h⟩
theorem good_num : Good rdNum (fun n => [.num n]) :=
  ⟨both_num, fun l h => by
    unfold rdNum at h
    split at h
    · cases h
    · rename_i he; injection h with h; exact he h,
  fun x c hb hc => by
    obtain ⟨m, rfl, hm⟩ := canB_nat (n := x) (by simpa [Tk.bad] using hb)
    simp only [flat_cons, flat_nil, List.append_nil, Tk.by, nbI_nat hm] at hc ⊢
    unfold rdNum
    rw [numB_cut hm hc]
    rfl⟩
theorem good_size : Good rdSize (fun n => [.size n]) :=
  ⟨both_size, fun l h => by
    unfold rdSize at h
    split at h
    · split at h <;> cases h
    · rename_i he; injection h with h; exact he h,
  fun x c hb hc => by
    have hb : x ≤ 1024 := by simp [Tk.bad] at hb; omega
    simp only [flat_cons, flat_nil, List.append_nil, Tk.by] at hc ⊢
    unfold rdSize
    rw [numB_cut (by omega) hc]
    rfl⟩
theorem good_text : Good rdText (fun s => [.text s]) :=
  ⟨both_text, fun l h => by
    unfold rdText at h
    split at h
    · split at h
      · cases h
      · split at h <;> cases h
    · rename_i he; injection h with h; exact he h,
  fun x c hb hc => by
    have hb : x.length ≤ 4096 := by simp [Tk.bad] at hb; omega
    simp only [flat_cons, flat_nil, List.append_nil, Tk.by] at hc ⊢
    by_cases h : c < (nb x.length).length
    · rw [take_app_lt h]
      unfold rdText
      rw [numB_cut (by omega) h]
      rfl
    · rw [take_app_ge h]
      unfold rdText
      rw [numB_of (by omega)]
      simp only [List.length_append] at hc
      have h1 : ¬ 4096 < x.length := by omega
      have h2 : (x.take (c - (nb x.length).length)).length < x.length := by rw [List.length_take]; omega
      simp only [if_true, h1, if_false, List.drop_left, h2]⟩
theorem Good.seq {α β : Type} {f : Spec α} {g : Spec β} {t : α → List Tk} {s : β → List Tk} (a : Good f t) (b : Good g s) : Good (seqS f g) (fun p => t p.1 ++ s p.2) :=
  ⟨a.both.seq b.both, fun l h => by
    unfold seqS at h
    cases hf : f l with
    | error e => rw [hf] at h; injection h with h; subst h; exact a.nz l hf
    | ok p =>
      rw [hf] at h
      simp only at h
      cases hg : g p.2 with
      | error e => rw [hg] at h; injection h with h; subst h; exact b.nz _ hg
      | ok q => rw [hg] at h; exact absurd h (by simp),
  fun x c hb hc => by
    simp only [bads_app, Bool.or_eq_false_iff] at hb
    simp only [flat_app, List.length_append] at hc ⊢
    unfold seqS
    by_cases h : c < (flat (t x.1)).length
    · rw [take_app_lt h, a.cut x.1 c hb.1 h]
    · rw [take_app_ge h, (a.both _ x.1 _).2 ⟨hb.1, rfl⟩]
      simp only
      rw [b.cut x.2 _ hb.2 (by omega)]⟩
theorem Good.as {α β : Type} {f : Spec α} {t : α → List Tk} (a : Good f t) (g : α → β) (gi : β → α) (h1 : ∀ x, gi (g x) = x) (h2 : ∀ y, g (gi y) = y) (t' : β → List Tk) (ht : ∀ y, t' y = t (gi y)) : Good (mapS g f) t' :=
  ⟨a.both.as g gi h1 h2 t' ht, fun l h => by
    unfold mapS at h
    cases hf : f l with
    | error e => rw [hf] at h; injection h with h; subst h; exact a.nz l hf
    | ok p => rw [hf] at h; exact absurd h (by simp),
  fun x c hb hc => by
    rw [ht] at hb hc ⊢
    unfold mapS
    rw [a.cut _ c hb hc]⟩
theorem good_N {α : Type} {f : Spec α} {t : α → List Tk} (a : Good f t) (h0 : f [] = .error 10) : ∀ (n : Nat), (∀ l, rdN f n l ≠ .error 0) ∧ ∀ (xs : List α) c, xs.length = n → bads (xs.flatMap t) = false → c < (flat (xs.flatMap t)).length → rdN f n ((flat (xs.flatMap t)).take c) = .error 10
  | 0 => ⟨fun l h => (by cases h), fun xs c hx hb hc => by
    obtain rfl := List.length_eq_zero_iff.1 hx
    simp at hc⟩
  | n + 1 => by
    have ih := good_N a h0 n
    unfold rdN
    rw [gate_eq h0]
    refine ⟨fun l h => ?_, fun xs c hx hb hc => ?_⟩
    · unfold mapS seqS at h
      cases hf : rdN f n l with
      | error e => rw [hf] at h; injection h with h; subst h; exact ih.1 l hf
      | ok p =>
        rw [hf] at h
        simp only at h
        cases hg : f p.2 with
        | error e => rw [hg] at h; injection h with h; subst h; exact a.nz _ hg
        | ok q => rw [hg] at h; cases h
    · obtain ⟨ys, y, rfl⟩ : ∃ ys y, xs = ys ++ [y] := by
        rcases List.eq_nil_or_concat xs with rfl | ⟨ys, y, rfl⟩
        · simp at hx
        · exact ⟨ys, y, by simp⟩
      simp only [List.length_append, List.length_cons, List.length_nil, Nat.zero_add, Nat.add_right_cancel_iff] at hx
      simp only [List.flatMap_append, List.flatMap_cons, List.flatMap_nil, List.append_nil, bads_app, Bool.or_eq_false_iff, flat_app, List.length_append] at hb hc ⊢
      unfold mapS seqS
      by_cases h : c < (flat (ys.flatMap t)).length
      · rw [take_app_lt h, ih.2 ys c hx hb.1 h]
      · rw [take_app_ge h, (both_N a.both h0 n _ ys _).2 ⟨hx, hb.1, rfl⟩]
        simp only
        rw [a.cut y _ hb.2 (by omega)]
theorem Good.list {α : Type} {f : Spec α} {t : α → List Tk} (a : Good f t) (h0 : f [] = .error 10) : Good (rdList f) (listT t) :=
  ⟨a.both.list h0, fun l h => by
    unfold rdList at h
    cases hs : rdSize l with
    | error e => rw [hs] at h; injection h with h; subst h; exact good_size.nz l hs
    | ok p => rw [hs] at h; exact (good_N a h0 p.1).1 _ h,
  fun xs c hb hc => by
    unfold listT at hb hc ⊢
    simp only [bads_cons, Bool.or_eq_false_iff] at hb
    have hb1 : bads [Tk.size xs.length] = false := by simp [hb.1]
    have e : flat (.size xs.length :: xs.flatMap t) = flat [.size xs.length] ++ flat (xs.flatMap t) := by simp
    rw [e] at hc ⊢
    rw [List.length_append] at hc
    unfold rdList
    by_cases h : c < (flat [Tk.size xs.length]).length
    · rw [take_app_lt h, good_size.cut _ c hb1 h]
    · rw [take_app_ge h, (both_size _ xs.length _).2 ⟨hb1, rfl⟩]
      exact (good_N a h0 _).2 xs _ rfl hb.2 (by omega)⟩
theorem good_id : Good rdId Iid.t :=
  (((Good.nop.seq good_num).seq good_num).seq good_num).as _ (fun x => ((((), x.e), x.n), x.o)) (fun _ => rfl) (fun _ => rfl) Iid.t (fun x => by simp [Iid.t])
theorem good_bal : Good rdBal Bal.t :=
  ((Good.nop.seq good_num).seq good_num).as _ (fun x => (((), x.no), x.node)) (fun _ => rfl) (fun _ => rfl) Bal.t (fun x => by simp [Bal.t])
theorem good_cmd : Good rdCmd Cmd.t :=
  ((((((((Good.nop.seq good_num).seq good_num).seq good_num).seq good_text).seq good_text).seq good_num).seq good_num).seq good_num).as _ (fun x => ((((((((((), x.client), x.seq), x.op), x.path), x.value), x.version), x.a), x.b))) (fun _ => rfl) (fun _ => rfl) Cmd.t (fun x => by simp [Cmd.t])
theorem good_entry : Good rdEntry Entry.t :=
  (((Good.nop.seq good_text).seq good_text).seq good_num).as _ (fun x => ((((), x.path), x.value), x.version)) (fun _ => rfl) (fun _ => rfl) Entry.t (fun x => by simp [Entry.t])
theorem good_n1 : Good rdN1 numT := (Good.nop.seq good_num).as _ (fun x => ((), x)) (fun _ => rfl) (fun _ => rfl) numT (fun x => by simp [numT])
theorem good_t1 : Good rdT1 textT := (Good.nop.seq good_text).as _ (fun x => ((), x)) (fun _ => rfl) (fun _ => rfl) textT (fun x => by simp [textT])
theorem good_reply : Good rdReply Reply.t :=
  ((((Good.nop.seq good_num).seq good_text).seq good_num).seq (good_t1.list t1_nil)).as _ (fun x => (((((), x.err), x.value), x.version), x.names)) (fun _ => rfl) (fun _ => rfl) Reply.t (fun x => by simp [Reply.t])
theorem good_sess : Good rdSess Sess.t :=
  (((Good.nop.seq good_num).seq good_num).seq good_reply).as _ (fun x => ((((), x.client), x.seq), x.reply)) (fun _ => rfl) (fun _ => rfl) Sess.t (fun x => by simp [Sess.t])
theorem good_snap : Good rdSnap Snap.t :=
  ((((Good.nop.seq good_num).seq (good_n1.list n1_nil)).seq (good_entry.list entry_nil)).seq (good_sess.list sess_nil)).as _ (fun x => (((((), x.epoch), x.nodes), x.paths), x.sessions)) (fun _ => rfl) (fun _ => rfl) Snap.t (fun x => by simp [Snap.t])
theorem good_inst : Good rdInst Inst.t :=
  ((((((Good.nop.seq good_num).seq good_bal).seq good_bal).seq good_cmd).seq good_num).seq (good_id.list id_nil)).as _ (fun x => (((((((), x.status), x.promise), x.voted), x.cmd), x.seq), x.deps)) (fun _ => rfl) (fun _ => rfl) Inst.t (fun x => by simp [Inst.t])
theorem good_msg : Good rdMsg Msg.t :=
  (((((((Good.nop.seq good_num).seq good_num).seq good_num).seq good_id).seq good_bal).seq good_inst).seq good_snap).as _ (fun x => ((((((((), x.kind), x.src), x.dst), x.id), x.ballot), x.inst), x.snap)) (fun _ => rfl) (fun _ => rfl) Msg.t (fun x => by simp [Msg.t])
theorem good_ii : Good rdII (fun p => p.1.t ++ p.2.t) :=
  ((Good.nop.seq good_id).seq good_inst).as _ (fun x => (((), x.1), x.2)) (fun _ => rfl) (fun _ => rfl) _ (fun x => by simp)
theorem rec_nz (l : List UInt8) : rdRec l ≠ .error 0 := by
  intro h
  unfold rdRec at h
  cases hn : rdNum l with
  | error e => rw [hn] at h; injection h with h; subst h; exact good_num.nz l hn
  | ok p =>
    rw [hn] at h
    simp only at h
    split at h
    · cases h
    · split at h
      · unfold mapS at h
        cases hs : rdSnap p.2 with
        | error e => rw [hs] at h; injection h with h; subst h; exact good_snap.nz _ hs
        | ok q => rw [hs] at h; cases h
      · unfold mapS at h
        cases hs : rdII p.2 with
        | error e => rw [hs] at h; injection h with h; subst h; exact good_ii.nz _ hs
        | ok q => rw [hs] at h; cases h

theorem wts_flat : ∀ (ts : List Tk), bads ts = false → wts ts ≤ (flat ts).length
  | [], _ => by simp
  | t :: ts, h => by
    simp only [bads_cons, Bool.or_eq_false_iff] at h
    have ih := wts_flat ts h.2
    have : t.wt ≤ t.by.length := by
      cases t with
      | num n =>
        obtain ⟨m, rfl, hm⟩ := canB_nat (n := n) (by simpa [Tk.bad] using h.1)
        have := nb_pos m
        simp only [Tk.wt, Tk.by, nbI_nat hm]; omega
      | text s => have := nb_pos s.length; simp only [Tk.wt, Tk.by, List.length_append]; omega
      | size n => exact nb_pos n
    simp only [wts_cons, flat_cons, List.length_append]
    omega
end Go.Proofs.Ytdoaglcnncapdaa.D
