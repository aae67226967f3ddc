import Derived.Test.YtdncoobpdllpkaaGreatDC
import Derived.Test.YtdncoobpdllpkaaGreatV32
/- Messages as bytes: what is written is read, and the other way round. The plain law. -/
set_option linter.unusedVariables false
set_option linter.unusedSimpArgs false
namespace Go.Proofs.YtdncoobpdllpkaaGreat.D
open Go Go.Proofs.YtdncoobpdllpkaaGreat.V Go.Proofs.YtdncoobpdllpkaaGreat.N
def Both {α : Type} (f : Spec α) (t : α → List Tk) : Prop := ∀ l x r, f l = .ok (x, r) ↔ (bads (t x) = false ∧ l = flat (t x) ++ r)
theorem drop_num {l r : List UInt8} {n k : Nat} (hl : l = nb n ++ r) (hk : k = (nb n).length) : l.drop k = r := by
  subst hl; subst hk; simp
theorem both_num : Both rdNum (fun n => [.num n]) := by
  intro l x r
  constructor
  · intro h
    unfold rdNum at h
    split at h
    · rename_i he
      injection h with h
      injection h with h1 h2
      obtain ⟨r', hl, hk, hn⟩ := numB_inv (l := l) (n := (numB l).1) (k := (numB l).2.1) (by rw [← he])
      rw [← h1]
      refine ⟨by simp [Tk.bad, canB_of hn], ?_⟩
      simp only [flat_cons, flat_nil, List.append_nil, Tk.by]
      rw [nbI_nat hn, ← h2, drop_num hl hk]
      exact hl
    · cases h
  · rintro ⟨hb, rfl⟩
    simp only [bads_cons, bads_nil, Bool.or_false, Tk.bad, Bool.not_eq_false'] at hb
    obtain ⟨m, rfl, hm⟩ := canB_nat hb
    simp only [flat_cons, flat_nil, List.append_nil, Tk.by]
    rw [nbI_nat hm]
    unfold rdNum
    rw [numB_of hm]
    simp
theorem both_size : Both rdSize (fun n => [.size n]) := by
  intro l x r
  constructor
  · intro h
    unfold rdSize at h
    split at h
    · rename_i he
      split at h
      · cases h
      · rename_i hx
        injection h with h
        injection h with h1 h2
        obtain ⟨r', hl, hk, hn⟩ := numB_inv (l := l) (n := (numB l).1) (k := (numB l).2.1) (by rw [← he])
        subst h1
        have hd : l.drop (numB l).2.1 = r' := drop_num hl hk
        rw [hd] at h2
        subst h2
        exact ⟨by simp [Tk.bad]; omega, by simpa [Tk.by] using hl⟩
    · cases h
  · rintro ⟨hb, rfl⟩
    have hb : x ≤ 1024 := by simp [Tk.bad] at hb; omega
    simp only [flat_cons, flat_nil, List.append_nil, Tk.by]
    unfold rdSize
    rw [numB_of (by omega)]
    have : ¬ 1024 < x := by omega
    simp [this]
theorem both_text : Both rdText (fun s => [.text s]) := by
  intro l x r
  constructor
  · intro h
    unfold rdText at h
    split at h
    · rename_i he
      split at h
      · cases h
      · rename_i hx
        split at h
        · cases h
        · rename_i hy
          injection h with h
          injection h with h1 h2
          obtain ⟨r', hl, hk, hn⟩ := numB_inv (l := l) (n := (numB l).1) (k := (numB l).2.1) (by rw [← he])
          have hd : l.drop (numB l).2.1 = r' := drop_num hl hk
          rw [hd] at h1 h2 hy
          generalize (numB l).1 = n at *
          subst h1
          subst h2
          have hln : (r'.take n).length = n := by simp; omega
          refine ⟨by simp [Tk.bad, hln]; omega, ?_⟩
          simp only [flat_cons, flat_nil, List.append_nil, Tk.by, hln, List.append_assoc, List.take_append_drop]
          exact hl
    · cases h
  · rintro ⟨hb, rfl⟩
    have hb : x.length ≤ 4096 := by simp [Tk.bad] at hb; omega
    simp only [flat_cons, flat_nil, List.append_nil, Tk.by, List.append_assoc]
    unfold rdText
    rw [numB_of (by omega)]
    have h1 : ¬ 4096 < x.length := by omega
    simp [h1]
theorem both_nop : Both nopS (fun _ => []) := by
  intro l x r
  simp [nopS]
theorem Both.seq {α β : Type} {f : Spec α} {g : Spec β} {t : α → List Tk} {s : β → List Tk} (a : Both f t) (b : Both g s) : Both (seqS f g) (fun p => t p.1 ++ s p.2) := by
  intro l x r
  unfold seqS
  constructor
  · intro h
    cases hf : f l with
    | error e => rw [hf] at h; cases h
    | ok p =>
      rw [hf] at h
      simp only at h
      cases hg : g p.2 with
      | error e => rw [hg] at h; cases h
      | ok q =>
        rw [hg] at h
        injection h with h
        injection h with h1 h2
        subst h1
        obtain ⟨a1, a2⟩ := (a l p.1 p.2).1 hf
        obtain ⟨b1, b2⟩ := (b p.2 q.1 q.2).1 hg
        subst h2
        refine ⟨by simp [a1, b1], ?_⟩
        conv => lhs; rw [a2, b2]
        simp
  · rintro ⟨hb, rfl⟩
    simp only [bads_app, Bool.or_eq_false_iff] at hb
    have e1 := (a (flat (t x.1 ++ s x.2) ++ r) x.1 (flat (s x.2) ++ r)).2 ⟨hb.1, by simp⟩
    rw [e1]
    simp only
    rw [(b (flat (s x.2) ++ r) x.2 r).2 ⟨hb.2, rfl⟩]
theorem Both.as {α β : Type} {f : Spec α} {t : α → List Tk} (a : Both f t) (g : α → β) (gi : β → α) (h1 : ∀ x, gi (g x) = x) (h2 : ∀ y, g (gi y) = y) (t' : β → List Tk) (ht : ∀ y, t' y = t (gi y)) : Both (mapS g f) t' := by
  intro l x r
  rw [ht]
  rw [← a l (gi x) r]
  unfold mapS
  constructor
  · intro h
    cases hf : f l with
    | error e => rw [hf] at h; cases h
    | ok p =>
      rw [hf] at h
      injection h with h
      injection h with h3 h4
      rw [← h3, h1, ← h4]
  · intro h
    rw [h]
    simp [h2]
theorem gate_eq {α : Type} {f : Spec α} (h : f [] = .error 10) : rdGate f = f := by
  funext l
  unfold rdGate
  split
  · rename_i e; rw [e, h]
  · rfl
theorem both_N {α : Type} {f : Spec α} {t : α → List Tk} (a : Both f t) (h0 : f [] = .error 10) : ∀ (n : Nat) l xs r, rdN f n l = .ok (xs, r) ↔ (xs.length = n ∧ bads (xs.flatMap t) = false ∧ l = flat (xs.flatMap t) ++ r)
  | 0, l, xs, r => by
    unfold rdN
    constructor
    · intro h
      injection h with h
      injection h with h1 h2
      subst h1; subst h2
      simp
    · rintro ⟨h1, h2, h3⟩
      obtain rfl := List.length_eq_zero_iff.1 h1
      simp at h3
      rw [h3]
  | n + 1, l, xs, r => by
    have ih := both_N a h0 n
    unfold rdN
    rw [gate_eq h0]
    constructor
    · intro h
      unfold mapS seqS at h
      cases hf : rdN f n l with
      | error e => rw [hf] at h; cases h
      | ok p =>
        rw [hf] at h
        simp only at h
        cases hg : f p.2 with
        | error e => rw [hg] at h; cases h
        | ok q =>
          rw [hg] at h
          injection h with h
          injection h with h1 h2
          obtain ⟨a1, a2, a3⟩ := (ih l p.1 p.2).1 hf
          obtain ⟨b1, b2⟩ := (a p.2 q.1 q.2).1 hg
          simp only at h1 h2
          subst h1
          subst h2
          refine ⟨by simp [a1], by simp [a2, b1], ?_⟩
          conv => lhs; rw [a3, b2]
          simp
    · rintro ⟨h1, h2, h3⟩
      obtain ⟨ys, y, rfl⟩ : ∃ ys y, xs = ys ++ [y] := by
        rcases List.eq_nil_or_concat xs with rfl | ⟨ys, y, rfl⟩
        · simp at h1
        · exact ⟨ys, y, by simp⟩
      simp at h1 h2 h3
      unfold mapS seqS
      have e1 := (ih l ys (flat (t y) ++ r)).2 ⟨h1, h2.1, by rw [h3]⟩
      rw [e1]
      simp only
      rw [(a (flat (t y) ++ r) y r).2 ⟨h2.2, rfl⟩]
theorem Both.list {α : Type} {f : Spec α} {t : α → List Tk} (a : Both f t) (h0 : f [] = .error 10) : Both (rdList f) (listT t) := by
  intro l xs r
  unfold rdList listT
  constructor
  · intro h
    cases hs : rdSize l with
    | error e => rw [hs] at h; cases h
    | ok p =>
      rw [hs] at h
      simp only at h
      obtain ⟨a1, a2⟩ := (both_size l p.1 p.2).1 hs
      obtain ⟨b1, b2, b3⟩ := (both_N a h0 p.1 p.2 xs r).1 h
      rw [b1]
      refine ⟨by simpa [b2] using a1, ?_⟩
      conv => lhs; rw [a2, b3]
      simp
  · rintro ⟨hb, rfl⟩
    simp only [bads_cons, Bool.or_eq_false_iff] at hb
    have e1 := (both_size (flat (.size xs.length :: xs.flatMap t) ++ r) xs.length (flat (xs.flatMap t) ++ r)).2 ⟨by simpa using hb.1, by simp⟩
    rw [e1]
    exact (both_N a h0 _ _ _ _).2 ⟨rfl, hb.2, rfl⟩
end Go.Proofs.YtdncoobpdllpkaaGreat.D

/- Messages as bytes: what is written is read, thing by thing. -/
set_option linter.unusedVariables false
set_option linter.unusedSimpArgs false
namespace Go.Proofs.YtdncoobpdllpkaaGreat.D
open Go Go.Proofs.YtdncoobpdllpkaaGreat.V Go.Proofs.YtdncoobpdllpkaaGreat.N
theorem both_id : Both rdId Iid.t :=
  (((both_nop.seq both_num).seq both_num).seq both_num).as _ (fun x => ((((), x.e), x.n), x.o)) (fun _ => rfl) (fun _ => rfl) Iid.t (fun x => by simp [Iid.t])
theorem both_bal : Both rdBal Bal.t :=
  ((both_nop.seq both_num).seq both_num).as _ (fun x => (((), x.no), x.node)) (fun _ => rfl) (fun _ => rfl) Bal.t (fun x => by simp [Bal.t])
theorem both_cmd : Both rdCmd Cmd.t :=
  ((((((((both_nop.seq both_num).seq both_num).seq both_num).seq both_text).seq both_text).seq both_num).seq both_num).seq both_num).as _ (fun x => ((((((((((), x.client), x.seq), x.op), x.path), x.value), x.version), x.a), x.b))) (fun _ => rfl) (fun _ => rfl) Cmd.t (fun x => by simp [Cmd.t])
theorem both_entry : Both rdEntry Entry.t :=
  (((both_nop.seq both_text).seq both_text).seq both_num).as _ (fun x => ((((), x.path), x.value), x.version)) (fun _ => rfl) (fun _ => rfl) Entry.t (fun x => by simp [Entry.t])
theorem both_n1 : Both rdN1 numT := (both_nop.seq both_num).as _ (fun x => ((), x)) (fun _ => rfl) (fun _ => rfl) numT (fun x => by simp [numT])
theorem both_t1 : Both rdT1 textT := (both_nop.seq both_text).as _ (fun x => ((), x)) (fun _ => rfl) (fun _ => rfl) textT (fun x => by simp [textT])
theorem id_nil : rdId [] = .error 10 := rfl
theorem n1_nil : rdN1 [] = .error 10 := rfl
theorem t1_nil : rdT1 [] = .error 10 := rfl
theorem entry_nil : rdEntry [] = .error 10 := rfl
theorem sess_nil : rdSess [] = .error 10 := rfl
theorem both_reply : Both rdReply Reply.t :=
  ((((both_nop.seq both_num).seq both_text).seq both_num).seq (both_t1.list t1_nil)).as _ (fun x => (((((), x.err), x.value), x.version), x.names)) (fun _ => rfl) (fun _ => rfl) Reply.t (fun x => by simp [Reply.t])
theorem both_sess : Both rdSess Sess.t :=
  (((both_nop.seq both_num).seq both_num).seq both_reply).as _ (fun x => ((((), x.client), x.seq), x.reply)) (fun _ => rfl) (fun _ => rfl) Sess.t (fun x => by simp [Sess.t])
theorem both_snap : Both rdSnap Snap.t :=
  ((((both_nop.seq both_num).seq (both_n1.list n1_nil)).seq (both_entry.list entry_nil)).seq (both_sess.list sess_nil)).as _ (fun x => (((((), x.epoch), x.nodes), x.paths), x.sessions)) (fun _ => rfl) (fun _ => rfl) Snap.t (fun x => by simp [Snap.t])
theorem both_inst : Both rdInst Inst.t :=
  ((((((both_nop.seq both_num).seq both_bal).seq both_bal).seq both_cmd).seq both_num).seq (both_id.list id_nil)).as _ (fun x => (((((((), x.status), x.promise), x.voted), x.cmd), x.seq), x.deps)) (fun _ => rfl) (fun _ => rfl) Inst.t (fun x => by simp [Inst.t])
theorem both_ii : Both rdII (fun p => p.1.t ++ p.2.t) :=
  ((both_nop.seq both_id).seq both_inst).as _ (fun x => (((), x.1), x.2)) (fun _ => rfl) (fun _ => rfl) _ (fun x => by simp)
end Go.Proofs.YtdncoobpdllpkaaGreat.D

/- Messages as bytes: records; the document's example. -/
set_option linter.unusedVariables false
set_option linter.unusedSimpArgs false
set_option maxRecDepth 20000
namespace Go.Proofs.YtdncoobpdllpkaaGreat.D
open Go Go.Proofs.YtdncoobpdllpkaaGreat.V Go.Proofs.YtdncoobpdllpkaaGreat.N
theorem iid_z {x : Iid} : x.zB = true ↔ x = .zero := by cases x; simp [Iid.zB, Iid.zero]
theorem bal_z {x : Bal} : x.zB = true ↔ x = .zero := by cases x; simp [Bal.zB, Bal.zero]
theorem cmd_z {x : Cmd} : x.zB = true ↔ x = .zero := by cases x; simp [Cmd.zB, Cmd.zero]
theorem inst_z {x : Inst} : x.zB = true ↔ x = .zero := by
  cases x; simp [Inst.zB, Inst.zero, bal_z, cmd_z]
theorem snap_z {x : Snap} : x.zB = true ↔ x = .zero := by
  cases x; simp [Snap.zB, Snap.zero]
theorem rec_write {x : Rec} (h1 : x.bad = false) (h2 : bads x.t = false) (r : List UInt8) : rdRec (flat x.t ++ r) = .ok (x, r) := by
  cases x with
  | mk sl id inst snap =>
    cases sl with
    | true =>
      simp [Rec.bad] at h1
      obtain ⟨e1, e2⟩ := h1
      rw [iid_z] at e1; rw [inst_z] at e2
      subst e1; subst e2
      simp [Rec.t] at h2 ⊢
      have e1 := (both_num (flat [.num 1] ++ (flat snap.t ++ r)) 1 (flat snap.t ++ r)).2 ⟨by simp [h2.1], rfl⟩
      simp at e1
      unfold rdRec
      rw [e1]
      simp [mapS, (both_snap (flat snap.t ++ r) snap r).2 ⟨h2.2, rfl⟩]
    | false =>
      simp [Rec.bad] at h1
      rw [snap_z] at h1
      subst h1
      simp [Rec.t] at h2 ⊢
      have e1 := (both_num (flat [.num 0] ++ (flat (id.t ++ inst.t) ++ r)) 0 (flat (id.t ++ inst.t) ++ r)).2 ⟨by simp [h2.1], rfl⟩
      simp at e1
      unfold rdRec
      rw [e1]
      have e2 := (both_ii (flat (id.t ++ inst.t) ++ r) (id, inst) r).2 ⟨by simp [h2.2], rfl⟩
      simp at e2
      simp [mapS, e2]
theorem rec_read {x : Rec} {l r : List UInt8} (h : rdRec l = .ok (x, r)) : x.bad = false ∧ bads x.t = false ∧ l = flat x.t ++ r := by
  unfold rdRec at h
  cases hn : rdNum l with
  | error e => rw [hn] at h; cases h
  | ok p =>
    rw [hn] at h
    simp only at h
    obtain ⟨a1, a2⟩ := (both_num l p.1 p.2).1 hn
    split at h
    · cases h
    · rename_i hb
      split at h
      · rename_i ho
        unfold mapS at h
        cases hs : rdSnap p.2 with
        | error e => rw [hs] at h; cases h
        | ok q =>
          rw [hs] at h
          injection h with h
          injection h with h1 h2
          obtain ⟨b1, b2⟩ := (both_snap p.2 q.1 q.2).1 hs
          subst h1
          refine ⟨by simp [Rec.bad, iid_z, inst_z], by rw [ho] at a1; simp [Rec.t, b1]; simpa using a1, ?_⟩
          rw [a2, b2, ← h2, ho]
          simp [Rec.t]
      · rename_i ho
        unfold mapS at h
        cases hs : rdII p.2 with
        | error e => rw [hs] at h; cases h
        | ok q =>
          rw [hs] at h
          injection h with h
          injection h with h1 h2
          obtain ⟨b1, b2⟩ := (both_ii p.2 q.1 q.2).1 hs
          subst h1
          simp at b1
          have hp0 : p.1 = 0 := by
            have hc : canB p.1 = true := by simpa [Tk.bad] using a1
            obtain ⟨m, hm, _⟩ := canB_nat hc
            omega
          rw [hp0] at a1 a2
          refine ⟨by simp [Rec.bad, snap_z], by simp [Rec.t, b1]; simpa using a1, ?_⟩
          rw [a2, b2, ← h2]
          simp [Rec.t]
theorem rec_back {x : Rec} (h1 : x.bad = false) (h2 : bads x.t = false) (d : Rec) : whole rdRec d (flat x.t) = (x, 0) := by
  have := rec_write h1 h2 []
  simp at this
  simp [whole, this]
def wr : Rec := ⟨false, ⟨1, 2, 3⟩, .zero, .zero⟩
theorem nbs (n : Nat) (h : n < 128) : nb n = [UInt8.ofNat n] := nb_small h
theorem snap_zero_few : Snap.zero.Few := ⟨by simp [Snap.zero], by simp [Snap.zero], by simp [Snap.zero], by simp [Snap.zero]⟩
@[local simp] theorem bytesOf_four (a b c d : UInt8) : bytesOf [b8 a, b8 b, b8 c, b8 d] = some [a, b, c, d] := bytesOf_map (l := [a, b, c, d])
end Go.Proofs.YtdncoobpdllpkaaGreat.D

/- Messages as bytes: how long what is written is. -/
set_option linter.unusedVariables false
set_option linter.unusedSimpArgs false
namespace Go.Proofs.YtdncoobpdllpkaaGreat.D
open Go Go.Proofs.YtdncoobpdllpkaaGreat.V Go.Proofs.YtdncoobpdllpkaaGreat.N
theorem nb_len_k : ∀ (k n : Nat), n < 128 ^ (k + 1) → (nb n).length ≤ k + 1
  | 0, n, h => by rw [nb_small (by simpa using h)]; simp
  | k + 1, n, h => by
    by_cases h1 : n < 128
    · rw [nb_small h1]; simp
    · rw [nb_big (by omega)]
      have := nb_len_k k (n / 128) (by rw [Nat.div_lt_iff_lt_mul (by decide)]; rw [Nat.pow_succ] at h; exact h)
      simp only [List.length_cons]
      omega
def Tk.wt : Tk → Nat
  | .num _ => 1
  | .text s => s.length + 1
  | .size _ => 1
def wts (ts : List Tk) : Nat := (ts.map Tk.wt).sum
@[simp] theorem wts_nil : wts [] = 0 := rfl
@[simp] theorem wts_cons (t : Tk) (ts : List Tk) : wts (t :: ts) = t.wt + wts ts := by simp [wts]
@[simp] theorem wts_app (a b : List Tk) : wts (a ++ b) = wts a + wts b := by simp [wts]
def Lt9 (ts : List Tk) : Prop := (flat ts).length + 1 ≤ 9 * wts ts
theorem Lt9.app {a b : List Tk} (h1 : Lt9 a) (h2 : Lt9 b) : Lt9 (a ++ b) := by
  unfold Lt9 at *; simp; omega
theorem len_list {α : Type} {t : α → List Tk} (h : ∀ x, 1 ≤ wts (t x)) : ∀ (l : List α), l.length ≤ wts (l.flatMap t)
  | [] => by simp
  | x :: l => by
    have h1 := h x
    have h2 := len_list h l
    simp only [List.flatMap_cons, List.length_cons, wts_app]
    omega
theorem Lt9.cons {t : Tk} {ts : List Tk} (h1 : Lt9 [t]) (h2 : Lt9 ts) : Lt9 (t :: ts) := Lt9.app h1 h2
end Go.Proofs.YtdncoobpdllpkaaGreat.D

/- Messages as bytes: messages and records that come in. -/
set_option linter.unusedVariables false
set_option linter.unusedSimpArgs false
namespace Go.Proofs.YtdncoobpdllpkaaGreat.D
open Go Go.Proofs.YtdncoobpdllpkaaGreat.V Go.RowKit
theorem sum_wts {α : Type} {t : α → List Tk} (l : List α) : (l.map fun x => wts (t x)).sum = wts (l.flatMap t) := by
  induction l with
  | nil => rfl
  | cons x l ih => simp [ih]
theorem bo_nums : BOpens Tryz.prog 22 (fun l : List Int => [.list (l.map iv) .no]) (fun _ => True) (fun l => wts (listT numT l)) :=
  bopens_map (fun l : List Int => l) (bopens_sl (sz := 1) Tryz.underlying22 (by kernel_rfl) (by decide) (bopens_int Tryz.underlying3) iv (fun _ => rfl) (fun _ => rfl)) (fun _ => rfl) (fun _ h => trivial) (fun l => by
    have : (fun _ : Int => 1) = fun n => wts (numT n) := by funext n; simp [numT, Tk.wt]
    rw [this, sum_wts]; simp [listT, Tk.wt]; omega)
theorem bo_texts : BOpens Tryz.prog 29 (fun l : List (List UInt8) => [.list (l.map .str) .no]) (fun _ => True) (fun l => wts (listT textT l)) :=
  bopens_map (fun l : List (List UInt8) => l) (bopens_sl (sz := 1) Tryz.underlying29 (by kernel_rfl) (by decide) (bopens_str Tryz.underlying9) AV.str (fun _ => rfl) (fun _ => rfl)) (fun _ => rfl) (fun _ h => trivial) (fun l => by
    have : (fun s : List UInt8 => s.length + 1) = fun s => wts (textT s) := by funext n; simp [textT, Tk.wt]
    rw [this, sum_wts]; simp [listT, Tk.wt]; omega)
theorem bo_reply : BOpens Tryz.prog 69 Reply.c (fun _ => True) (fun x => wts x.t) :=
  bopens_map (fun p : Int × List UInt8 × Int × List (List UInt8) × Unit => Reply.mk p.1 p.2.1 p.2.2.1 p.2.2.2.1)
    (bopens_struct Tryz.underlying69 (by kernel_rfl) (fbopens_cons (k := 1) rfl (by kernel_rfl) (bopens_int Tryz.underlying50) (fbopens_cons (k := 1) rfl (by kernel_rfl) (bopens_str Tryz.underlying9) (fbopens_cons (k := 1) rfl (by kernel_rfl) (bopens_int Tryz.underlying3) (fbopens_cons (k := 1) rfl (by kernel_rfl) bo_texts fbopens_nil)))))
    (fun _ => rfl) (fun _ h => trivial) (fun _ => by simp only [Reply.t, wts_cons, Tk.wt]; omega)
theorem bo_sess : BOpens Tryz.prog 71 Sess.c (fun _ => True) (fun x => wts x.t) :=
  bopens_map (fun p : Int × Int × Reply × Unit => Sess.mk p.1 p.2.1 p.2.2.1)
    (bopens_struct Tryz.underlying71 (by kernel_rfl) (fbopens_cons (k := 1) rfl (by kernel_rfl) (bopens_int Tryz.underlying3) (fbopens_cons (k := 1) rfl (by kernel_rfl) (bopens_int Tryz.underlying3) (fbopens_cons (k := 4) rfl (by kernel_rfl) bo_reply fbopens_nil))))
    (fun _ => rfl) (fun _ h => trivial) (fun _ => by simp only [Sess.t, wts_cons, Tk.wt]; omega)
theorem bo_entry : BOpens Tryz.prog 67 Entry.c (fun _ => True) (fun x => wts x.t) :=
  bopens_map (fun p : List UInt8 × List UInt8 × Int × Unit => Entry.mk p.1 p.2.1 p.2.2.1)
    (bopens_struct Tryz.underlying67 (by kernel_rfl) (fbopens_cons (k := 1) rfl (by kernel_rfl) (bopens_str Tryz.underlying9) (fbopens_cons (k := 1) rfl (by kernel_rfl) (bopens_str Tryz.underlying9) (fbopens_cons (k := 1) rfl (by kernel_rfl) (bopens_int Tryz.underlying3) fbopens_nil))))
    (fun _ => rfl) (fun _ h => trivial) (fun _ => by simp only [Entry.t, wts_cons, wts_nil, Tk.wt]; omega)
theorem bo_entries : BOpens Tryz.prog 25 (fun l : List Entry => [.list (l.map Entry.av) .no]) (fun _ => True) (fun l => wts (listT Entry.t l)) :=
  bopens_map (fun l : List Entry => l) (bopens_sl (sz := 3) Tryz.underlying25 (by kernel_rfl) (by decide) bo_entry Entry.av (fun _ => rfl) (fun _ => rfl)) (fun _ => rfl) (fun _ h => trivial) (fun l => by rw [sum_wts]; simp [listT, Tk.wt]; omega)
theorem bo_sessions : BOpens Tryz.prog 26 (fun l : List Sess => [.list (l.map Sess.av) .no]) (fun _ => True) (fun l => wts (listT Sess.t l)) :=
  bopens_map (fun l : List Sess => l) (bopens_sl (sz := 6) Tryz.underlying26 (by kernel_rfl) (by decide) bo_sess Sess.av (fun _ => rfl) (fun _ => rfl)) (fun _ => rfl) (fun _ h => trivial) (fun l => by rw [sum_wts]; simp [listT, Tk.wt]; omega)
theorem bo_config : BOpens Tryz.prog 24 (fun p : Int × List Int => [iv p.1, .list (p.2.map iv) .no]) (fun _ => True) (fun p => 1 + wts (listT numT p.2)) :=
  bopens_map (fun p : Int × List Int × Unit => (p.1, p.2.1))
    (bopens_struct Tryz.underlying24 (by kernel_rfl) (fbopens_cons (k := 1) rfl (by kernel_rfl) (bopens_int Tryz.underlying3) (fbopens_cons (k := 1) rfl (by kernel_rfl) bo_nums fbopens_nil)))
    (fun _ => rfl) (fun _ h => trivial) (fun _ => by dsimp only; omega)
theorem bo_snap : BOpens Tryz.prog 28 Snap.c (fun _ => True) (fun x => wts x.t) :=
  bopens_map (fun p : (Int × List Int) × List Entry × List Sess × Unit => Snap.mk p.1.1 p.1.2 p.2.1 p.2.2.1)
    (bopens_struct Tryz.underlying28 (by kernel_rfl) (fbopens_cons (k := 2) rfl (by kernel_rfl) bo_config (fbopens_cons (k := 1) rfl (by kernel_rfl) bo_entries (fbopens_cons (k := 1) rfl (by kernel_rfl) bo_sessions fbopens_nil))))
    (fun _ => rfl) (fun _ h => trivial) (fun _ => by simp only [Snap.t, wts_cons, wts_app, Tk.wt]; omega)
end Go.Proofs.YtdncoobpdllpkaaGreat.D

/- Messages as bytes: beginnings are short; what is wrong is told. The plain law. -/
set_option linter.unusedVariables false
set_option linter.unusedSimpArgs false
namespace Go.Proofs.YtdncoobpdllpkaaGreat.D
open Go Go.Proofs.YtdncoobpdllpkaaGreat.V Go.Proofs.YtdncoobpdllpkaaGreat.N
structure Good {α : Type} (f : Spec α) (t : α → List Tk) : Prop where
  both : Both f t
  nz : ∀ l, f l ≠ .error 0
  cut : ∀ x c, bads (t x) = false → c < (flat (t x)).length → f ((flat (t x)).take c) = .error 10
theorem numG_cut : ∀ (m f i n0 c : Nat), c < (nb m).length → (nb m).length ≤ f → numG f i n0 ((nb m).take c) = (0, 0, 10) := by
  intro m
  induction m using Nat.strongRecOn with
  | ind m ih =>
    intro f i n0 c hc hf
    cases c with
    | zero =>
      cases f with
      | zero => omega
      | succ f => rfl
    | succ c =>
      by_cases h : m < 128
      · rw [nb_small h] at hc; simp at hc
      · rw [nb_big (by omega)] at hc hf ⊢
        simp only [List.length_cons] at hc hf
        cases f with
        | zero => omega
        | succ f =>
          simp only [List.take_succ_cons, numG]
          rw [if_pos (by rw [b8n_toNat]; omega)]
          exact ih (m / 128) (by omega) f _ _ c (by omega) (by omega)
theorem numB_cut {n c : Nat} (hn : n ≤ 281474976710656) (hc : c < (nb n).length) : numB ((nb n).take c) = (0, 0, 10) :=
  numG_cut n 8 0 0 c hc (Nat.le_trans (nb_len_k 6 n (by omega)) (by decide))
theorem take_app_lt {α : Type} {a b : List α} {c : Nat} (h : c < a.length) : (a ++ b).take c = a.take c := by
  rw [List.take_append_of_le_length (by omega)]
theorem take_app_ge {α : Type} {a b : List α} {c : Nat} (h : ¬ c < a.length) : (a ++ b).take c = a ++ b.take (c - a.length) := by
  rw [List.take_append, List.take_of_length_le (by omega)]
theorem Good.nop : Good nopS (fun _ => []) := ⟨both_nop, fun l h => (by cases h), fun x c _ h => by simp at h⟩
theorem good_num : Good rdNum (fun n => [.num n]) :=
  ⟨both_num, fun l h => by
    unfold rdNum at h
    split at h
    · cases h
    · rename_i he; injection h with h; exact he h,
  fun x c hb hc => by
    obtain ⟨m, rfl, hm⟩ := canB_nat (n := x) (by simpa [Tk.bad] using hb)
    simp only [flat_cons, flat_nil, List.append_nil, Tk.by, nbI_nat hm] at hc ⊢
    unfold rdNum
    rw [numB_cut hm hc]
    rfl⟩
theorem good_size : Good rdSize (fun n => [.size n]) :=
  ⟨both_size, fun l h => by
    unfold rdSize at h
    split at h
    · split at h <;> cases h
    · rename_i he; injection h with h; exact he h,
  fun x c hb hc => by
    have hb : x ≤ 1024 := by simp [Tk.bad] at hb; omega
    simp only [flat_cons, flat_nil, List.append_nil, Tk.by] at hc ⊢
    unfold rdSize
    rw [numB_cut (by omega) hc]
    rfl⟩
theorem good_text : Good rdText (fun s => [.text s]) :=
  ⟨both_text, fun l h => by
    unfold rdText at h
    split at h
    · split at h
      · cases h
      · split at h <;> cases h
    · rename_i he; injection h with h; exact he h,
  fun x c hb hc => by
    have hb : x.length ≤ 4096 := by simp [Tk.bad] at hb; omega
    simp only [flat_cons, flat_nil, List.append_nil, Tk.by] at hc ⊢
    by_cases h : c < (nb x.length).length
    · rw [take_app_lt h]
      unfold rdText
      rw [numB_cut (by omega) h]
      rfl
    · rw [take_app_ge h]
      unfold rdText
      rw [numB_of (by omega)]
      simp only [List.length_append] at hc
      have h1 : ¬ 4096 < x.length := by omega
      have h2 : (x.take (c - (nb x.length).length)).length < x.length := by rw [List.length_take]; omega
      simp only [if_true, h1, if_false, List.drop_left, h2]⟩
theorem Good.seq {α β : Type} {f : Spec α} {g : Spec β} {t : α → List Tk} {s : β → List Tk} (a : Good f t) (b : Good g s) : Good (seqS f g) (fun p => t p.1 ++ s p.2) :=
  ⟨a.both.seq b.both, fun l h => by
    unfold seqS at h
    cases hf : f l with
    | error e => rw [hf] at h; injection h with h; subst h; exact a.nz l hf
    | ok p =>
      rw [hf] at h
      simp only at h
      cases hg : g p.2 with
      | error e => rw [hg] at h; injection h with h; subst h; exact b.nz _ hg
      | ok q => rw [hg] at h; exact absurd h (by simp),
  fun x c hb hc => by
    simp only [bads_app, Bool.or_eq_false_iff] at hb
    simp only [flat_app, List.length_append] at hc ⊢
    unfold seqS
    by_cases h : c < (flat (t x.1)).length
    · rw [take_app_lt h, a.cut x.1 c hb.1 h]
    · rw [take_app_ge h, (a.both _ x.1 _).2 ⟨hb.1, rfl⟩]
      simp only
      rw [b.cut x.2 _ hb.2 (by omega)]⟩
theorem Good.as {α β : Type} {f : Spec α} {t : α → List Tk} (a : Good f t) (g : α → β) (gi : β → α) (h1 : ∀ x, gi (g x) = x) (h2 : ∀ y, g (gi y) = y) (t' : β → List Tk) (ht : ∀ y, t' y = t (gi y)) : Good (mapS g f) t' :=
  ⟨a.both.as g gi h1 h2 t' ht, fun l h => by
    unfold mapS at h
    cases hf : f l with
    | error e => rw [hf] at h; injection h with h; subst h; exact a.nz l hf
    | ok p => rw [hf] at h; exact absurd h (by simp),
  fun x c hb hc => by
    rw [ht] at hb hc ⊢
    unfold mapS
    rw [a.cut _ c hb hc]⟩
theorem good_N {α : Type} {f : Spec α} {t : α → List Tk} (a : Good f t) (h0 : f [] = .error 10) : ∀ (n : Nat), (∀ l, rdN f n l ≠ .error 0) ∧ ∀ (xs : List α) c, xs.length = n → bads (xs.flatMap t) = false → c < (flat (xs.flatMap t)).length → rdN f n ((flat (xs.flatMap t)).take c) = .error 10
  | 0 => ⟨fun l h => (by cases h), fun xs c hx hb hc => by
    obtain rfl := List.length_eq_zero_iff.1 hx
    simp at hc⟩
  | n + 1 => by
    have ih := good_N a h0 n
    unfold rdN
    rw [gate_eq h0]
    refine ⟨fun l h => ?_, fun xs c hx hb hc => ?_⟩
    · unfold mapS seqS at h
      cases hf : rdN f n l with
      | error e => rw [hf] at h; injection h with h; subst h; exact ih.1 l hf
      | ok p =>
        rw [hf] at h
        simp only at h
        cases hg : f p.2 with
        | error e => rw [hg] at h; injection h with h; subst h; exact a.nz _ hg
        | ok q => rw [hg] at h; cases h
    · obtain ⟨ys, y, rfl⟩ : ∃ ys y, xs = ys ++ [y] := by
        rcases List.eq_nil_or_concat xs with rfl | ⟨ys, y, rfl⟩
        · simp at hx
        · exact ⟨ys, y, by simp⟩
      simp only [List.length_append, List.length_cons, List.length_nil, Nat.zero_add, Nat.add_right_cancel_iff] at hx
      simp only [List.flatMap_append, List.flatMap_cons, List.flatMap_nil, List.append_nil, bads_app, Bool.or_eq_false_iff, flat_app, List.length_append] at hb hc ⊢
      unfold mapS seqS
      by_cases h : c < (flat (ys.flatMap t)).length
      · rw [take_app_lt h, ih.2 ys c hx hb.1 h]
      · rw [take_app_ge h, (both_N a.both h0 n _ ys _).2 ⟨hx, hb.1, rfl⟩]
        simp only
        rw [a.cut y _ hb.2 (by omega)]
theorem Good.list {α : Type} {f : Spec α} {t : α → List Tk} (a : Good f t) (h0 : f [] = .error 10) : Good (rdList f) (listT t) :=
  ⟨a.both.list h0, fun l h => by
    unfold rdList at h
    cases hs : rdSize l with
    | error e => rw [hs] at h; injection h with h; subst h; exact good_size.nz l hs
    | ok p => rw [hs] at h; exact (good_N a h0 p.1).1 _ h,
  fun xs c hb hc => by
    unfold listT at hb hc ⊢
    simp only [bads_cons, Bool.or_eq_false_iff] at hb
    have hb1 : bads [Tk.size xs.length] = false := by simp [hb.1]
    have e : flat (.size xs.length :: xs.flatMap t) = flat [.size xs.length] ++ flat (xs.flatMap t) := by simp
    rw [e] at hc ⊢
    rw [List.length_append] at hc
    unfold rdList
    by_cases h : c < (flat [Tk.size xs.length]).length
    · rw [take_app_lt h, good_size.cut _ c hb1 h]
    · rw [take_app_ge h, (both_size _ xs.length _).2 ⟨hb1, rfl⟩]
      exact (good_N a h0 _).2 xs _ rfl hb.2 (by omega)⟩
theorem good_id : Good rdId Iid.t :=
  (((Good.nop.seq good_num).seq good_num).seq good_num).as _ (fun x => ((((), x.e), x.n), x.o)) (fun _ => rfl) (fun _ => rfl) Iid.t (fun x => by simp [Iid.t])
theorem good_bal : Good rdBal Bal.t :=
  ((Good.nop.seq good_num).seq good_num).as _ (fun x => (((), x.no), x.node)) (fun _ => rfl) (fun _ => rfl) Bal.t (fun x => by simp [Bal.t])
theorem good_cmd : Good rdCmd Cmd.t :=
  ((((((((Good.nop.seq good_num).seq good_num).seq good_num).seq good_text).seq good_text).seq good_num).seq good_num).seq good_num).as _ (fun x => ((((((((((), x.client), x.seq), x.op), x.path), x.value), x.version), x.a), x.b))) (fun _ => rfl) (fun _ => rfl) Cmd.t (fun x => by simp [Cmd.t])
theorem good_entry : Good rdEntry Entry.t :=
  (((Good.nop.seq good_text).seq good_text).seq good_num).as _ (fun x => ((((), x.path), x.value), x.version)) (fun _ => rfl) (fun _ => rfl) Entry.t (fun x => by simp [Entry.t])
theorem good_n1 : Good rdN1 numT := (Good.nop.seq good_num).as _ (fun x => ((), x)) (fun _ => rfl) (fun _ => rfl) numT (fun x => by simp [numT])
theorem good_t1 : Good rdT1 textT := (Good.nop.seq good_text).as _ (fun x => ((), x)) (fun _ => rfl) (fun _ => rfl) textT (fun x => by simp [textT])
theorem good_reply : Good rdReply Reply.t :=
  ((((Good.nop.seq good_num).seq good_text).seq good_num).seq (good_t1.list t1_nil)).as _ (fun x => (((((), x.err), x.value), x.version), x.names)) (fun _ => rfl) (fun _ => rfl) Reply.t (fun x => by simp [Reply.t])
theorem good_sess : Good rdSess Sess.t :=
  (((Good.nop.seq good_num).seq good_num).seq good_reply).as _ (fun x => ((((), x.client), x.seq), x.reply)) (fun _ => rfl) (fun _ => rfl) Sess.t (fun x => by simp [Sess.t])
theorem good_snap : Good rdSnap Snap.t :=
  ((((Good.nop.seq good_num).seq (good_n1.list n1_nil)).seq (good_entry.list entry_nil)).seq (good_sess.list sess_nil)).as _ (fun x => (((((), x.epoch), x.nodes), x.paths), x.sessions)) (fun _ => rfl) (fun _ => rfl) Snap.t (fun x => by simp [Snap.t])
theorem good_inst : Good rdInst Inst.t :=
  ((((((Good.nop.seq good_num).seq good_bal).seq good_bal).seq good_cmd).seq good_num).seq (good_id.list id_nil)).as _ (fun x => (((((((), x.status), x.promise), x.voted), x.cmd), x.seq), x.deps)) (fun _ => rfl) (fun _ => rfl) Inst.t (fun x => by simp [Inst.t])
theorem good_ii : Good rdII (fun p => p.1.t ++ p.2.t) :=
  ((Good.nop.seq good_id).seq good_inst).as _ (fun x => (((), x.1), x.2)) (fun _ => rfl) (fun _ => rfl) _ (fun x => by simp)
theorem rec_nz (l : List UInt8) : rdRec l ≠ .error 0 := by
  intro h
  unfold rdRec at h
  cases hn : rdNum l with
  | error e => rw [hn] at h; injection h with h; subst h; exact good_num.nz l hn
  | ok p =>
    rw [hn] at h
    simp only at h
    split at h
    · cases h
    · split at h
      · unfold mapS at h
        cases hs : rdSnap p.2 with
        | error e => rw [hs] at h; injection h with h; subst h; exact good_snap.nz _ hs
        | ok q => rw [hs] at h; cases h
      · unfold mapS at h
        cases hs : rdII p.2 with
        | error e => rw [hs] at h; injection h with h; subst h; exact good_ii.nz _ hs
        | ok q => rw [hs] at h; cases h

theorem nb_pos1 (n : Nat) : 1 ≤ (nb n).length := by rw [nb_len]; omega
theorem wts_flat : ∀ (ts : List Tk), bads ts = false → wts ts ≤ (flat ts).length
  | [], _ => by simp
  | t :: ts, h => by
    simp only [bads_cons, Bool.or_eq_false_iff] at h
    have ih := wts_flat ts h.2
    have : t.wt ≤ t.by.length := by
      cases t with
      | num n =>
        obtain ⟨m, rfl, hm⟩ := canB_nat (n := n) (by simpa [Tk.bad] using h.1)
        have := nb_pos1 m
        simp only [Tk.wt, Tk.by, nbI_nat hm]; omega
      | text s => have := nb_pos1 s.length; simp only [Tk.wt, Tk.by, List.length_append]; omega
      | size n => exact nb_pos1 n
    simp only [wts_cons, flat_cons, List.length_append]
    omega
end Go.Proofs.YtdncoobpdllpkaaGreat.D
