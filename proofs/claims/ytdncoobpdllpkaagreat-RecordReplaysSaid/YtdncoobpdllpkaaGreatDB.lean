import Derived.Test.YtdncoobpdllpkaaGreatDA
import Derived.Test.YtdncoobpdllpkaaGreatV30
/- Bytes as messages: the reader. -/
set_option linter.unusedVariables false
set_option linter.unusedSimpArgs false
set_option maxRecDepth 20000
namespace Go.Proofs.YtdncoobpdllpkaaGreat.D
open Go Go.Proofs.YtdncoobpdllpkaaGreat.V Go.Proofs.YtdncoobpdllpkaaGreat.N
abbrev St := Except Nat (List UInt8)
abbrev Spec (α : Type) := List UInt8 → Except Nat (α × List UInt8)
def rdNum : Spec Int := fun l => if (numB l).2.2 = 0 then .ok (((numB l).1 : Nat), l.drop (numB l).2.1) else .error (numB l).2.2
def rdText : Spec (List UInt8) := fun l =>
  if (numB l).2.2 = 0 then
    if 4096 < (numB l).1 then .error 13
    else if (l.drop (numB l).2.1).length < (numB l).1 then .error 10
    else .ok ((l.drop (numB l).2.1).take (numB l).1, (l.drop (numB l).2.1).drop (numB l).1)
  else .error (numB l).2.2
def rdSize : Spec Nat := fun l => if (numB l).2.2 = 0 then if 1024 < (numB l).1 then .error 13 else .ok ((numB l).1, l.drop (numB l).2.1) else .error (numB l).2.2
def runV {α : Type} (f : Spec α) (d : α) : St → α
  | .error _ => d
  | .ok l => match f l with
    | .error _ => d
    | .ok p => p.1
def runT {α : Type} (f : Spec α) : St → St
  | .error e => .error e
  | .ok l => match f l with
    | .error e => .error e
    | .ok p => .ok p.2
/-- What a reader's errors and bytes are. -/
def StIs (st : St) (l : List UInt8) (e1 e2 : Nat) : Prop :=
  match st with
  | .ok l' => e1 = 0 ∧ e2 = 0 ∧ l' = l
  | .error e => e ≠ 0 ∧ (if e2 = 0 then e1 else e2) = e
def Rq (h : AHeap) (rid nrid : Nat) (st : St) : Prop :=
  ∃ l e1 e2, Rd h nrid l e1 ∧ h[rid]? = some (.cells [.ptr nrid 0, .int .i64 (e2 : Nat)]) ∧ rid ≠ nrid ∧ StIs st l e1 e2 ∧ l.length ≤ 100000000
def rv (rid : Nat) : AV := .iface 105 (.ptr rid 0)
/-- The number reader reads a number. -/
theorem nread_ok (h : AHeap) (id : Nat) (l : List UInt8) (hl : l.length ≤ 100000000) (hr : Rd h id l 0) :
    ACalls Tryz.prog 62 [.ptr id 0] h fun r h' => r = .int .i64 (runV rdNum 0 (.ok l)) ∧ ∃ l' t' e', h' = h.set id (.cells [.list (l'.map b8) t', .int .i64 (e' : Nat)]) ∧ StIs (runT rdNum (.ok l)) l' e' 0 ∧ l'.length ≤ l.length := by
  by_cases he : (numB l).2.2 = 0
  · obtain ⟨r, hlr, hk, hn⟩ := numB_inv (l := l) (n := (numB l).1) (k := (numB l).2.1) (by rw [← he])
    generalize hnn : (numB l).1 = n at *
    generalize hkk : (numB l).2.1 = k at *
    have e1 : rdNum l = .ok ((n : Nat), r) := by
      unfold rdNum
      rw [if_pos he, hnn, hkk, hk]
      conv => lhs; rw [hlr]
      simp
    have c := rnum_read h id n r hn (by rw [← hlr]; exact hl) (by rw [← hlr]; exact hr)
    refine c.mono fun r' h' ⟨hr', t, hh⟩ => ?_
    simp only [runV, runT, e1]
    exact ⟨hr', r, t, 0, hh, ⟨rfl, rfl, rfl⟩, by rw [hlr]; simp⟩
  · have e1 : rdNum l = .error (numB l).2.2 := by unfold rdNum; rw [if_neg he]
    have c := rnum_fail h id l he hl hr
    refine c.mono fun r' h' hh => ?_
    simp only [runV, runT, e1]
    obtain ⟨hr', t, hh⟩ := hh
    exact ⟨hr', l, t, (numB l).2.2, hh, ⟨he, by simp⟩, Nat.le_refl _⟩
theorem nread_done (h : AHeap) (id : Nat) (l : List UInt8) (e : Nat) (he : e ≠ 0) (hr : Rd h id l e) :
    ACalls Tryz.prog 62 [.ptr id 0] h fun r h' => r = .int .i64 0 ∧ h' = h := by
  obtain ⟨t, hr⟩ := hr
  have h3 : ((e : Int) != 0) = true := by simp; omega
  refine acalls_of_awp Tryz.func62 rfl (by simp only [List.length_cons, List.length_nil]; decide) ?_
  simp only [params_cons, params_nil]
  repeat (first | ((first | refine zd ?_ | refine zx ?_ | refine zk ?_ | refine zl ?_ | refine zr ?_); refine zq ?_) | refine zs ?_ | refine zh (by simp -implicitDefEqProofs (disch := (first | omega | (simp; done) | fail)) [if_pos, if_neg, wrap_i64, tmod_pos, tdiv_pos, Int.toNat_add, hr, h3]; rfl) ?_ | refine zb ?_ | refine zo ?_ | refine zt ?_ | refine zf ?_)
  first | refine zY (.inr rfl) ?_ | refine zY (.inl rfl) ?_
  simp
theorem ntext_ok (h : AHeap) (id : Nat) (l : List UInt8) (hl : l.length ≤ 100000000) (hr : Rd h id l 0) :
    ACalls Tryz.prog 140 [.ptr id 0, .int .i64 4096] h fun r h' => r = .str (runV rdText [] (.ok l)) ∧ ∃ l' t' e', h' = h.set id (.cells [.list (l'.map b8) t', .int .i64 (e' : Nat)]) ∧ StIs (runT rdText (.ok l)) l' e' 0 ∧ l'.length ≤ l.length := by
  by_cases he : (numB l).2.2 = 0
  · obtain ⟨r, hlr, hk, hn⟩ := numB_inv (l := l) (n := (numB l).1) (k := (numB l).2.1) (by rw [← he])
    generalize hnn : (numB l).1 = n at *
    generalize hkk : (numB l).2.1 = k at *
    have hd : l.drop k = r := by rw [hk]; conv => lhs; rw [hlr]
                                 simp
    have e0 : rdText l = if 4096 < n then .error 13 else if r.length < n then .error 10 else .ok (r.take n, r.drop n) := by
      unfold rdText
      rw [if_pos he, hnn, hkk, hd]
    by_cases h1 : 4096 < n
    · rw [if_pos h1] at e0
      have c := rtext_long h id 4096 n r hn h1 (by rw [← hlr]; exact hl) (by rw [← hlr]; exact hr)
      refine c.mono fun r' h' hh => ?_
      obtain ⟨hr', t, hh⟩ := hh
      simp only [runV, runT, e0]
      exact ⟨hr', nb n ++ r, t, 13, hh, ⟨by decide, by simp⟩, by rw [hlr]; exact Nat.le_refl _⟩
    · rw [if_neg h1] at e0
      by_cases h2 : r.length < n
      · rw [if_pos h2] at e0
        have c := rtext_short h id 4096 n r hn (by omega) h2 (by rw [← hlr]; exact hl) (by rw [← hlr]; exact hr)
        refine c.mono fun r' h' hh => ?_
        obtain ⟨hr', t, hh⟩ := hh
        simp only [runV, runT, e0]
        exact ⟨hr', nb n ++ r, t, 10, hh, ⟨by decide, by simp⟩, by rw [hlr]; exact Nat.le_refl _⟩
      · rw [if_neg h2] at e0
        have hsn : (r.take n).length = n := by simp; omega
        have hle : l = nb (r.take n).length ++ (r.take n ++ r.drop n) := by rw [hsn, List.take_append_drop]; exact hlr
        have c := rtext_read h id 4096 (r.take n) (r.drop n) (by omega) (by omega) (by rw [← hle]; exact hl) (by rw [← hle]; exact hr)
        refine c.mono fun r' h' hh => ?_
        obtain ⟨hr', t, hh⟩ := hh
        simp only [runV, runT, e0]
        exact ⟨hr', r.drop n, t, 0, hh, ⟨rfl, rfl, rfl⟩, by rw [hlr]; simp; omega⟩
  · have e1 : rdText l = .error (numB l).2.2 := by unfold rdText; rw [if_neg he]
    have c := rtext_fail h id 4096 l he hl hr
    refine c.mono fun r' h' hh => ?_
    simp only [runV, runT, e1]
    obtain ⟨hr', t, hh⟩ := hh
    exact ⟨hr', l, t, (numB l).2.2, hh, ⟨he, by simp⟩, Nat.le_refl _⟩
theorem ntext_done (h : AHeap) (id : Nat) (l : List UInt8) (e : Nat) (he : e ≠ 0) (hr : Rd h id l e) :
    ACalls Tryz.prog 140 [.ptr id 0, .int .i64 4096] h fun r h' => r = .str [] ∧ h' = h := by
  have hr0 := hr
  obtain ⟨t, hr⟩ := hr
  have h3 : ((e : Int) != 0) = true := by simp; omega
  refine acalls_of_awp Tryz.func140 rfl (by simp only [List.length_cons, List.length_nil]; decide) ?_
  simp only [params_cons, params_nil]
  repeat (first | ((first | refine zd ?_ | refine zx ?_ | refine zk ?_ | refine zl ?_ | refine zr ?_); refine zq ?_) | refine zs ?_ | refine zh (by simp -implicitDefEqProofs (disch := (first | omega | (simp; done) | fail)) [if_pos, if_neg, wrap_i64, tmod_pos, tdiv_pos, Int.toNat_add, hr]; rfl) ?_ | refine zb ?_ | refine zo ?_ | refine zt ?_ | refine zf ?_)
  refine goes_callS (callable_of Tryz.func62) (by simp -implicitDefEqProofs (disch := (first | omega | (simp; done) | fail)) [if_pos, if_neg, wrap_i64, tmod_pos, tdiv_pos, Int.toNat_add] <;> first | rfl | omega) _ (nread_done _ id l e he hr0) ?_
  rintro _ h1 ⟨rfl, rfl⟩
  refine ze ?_
  repeat (first | ((first | refine zd ?_ | refine zx ?_ | refine zk ?_ | refine zl ?_ | refine zr ?_); refine zq ?_) | refine zs ?_ | refine zh (by simp -implicitDefEqProofs (disch := (first | omega | (simp; done) | fail)) [if_pos, if_neg, wrap_i64, tmod_pos, tdiv_pos, Int.toNat_add, hr, h3]; rfl) ?_ | refine zb ?_ | refine zo ?_ | refine zt ?_ | refine zf ?_)
  first | refine zY (.inr rfl) ?_ | refine zY (.inl rfl) ?_
  simp
/-- Objects that reading turns. -/
def Fr (rid nrid : Nat) (k : Nat) : Prop := k = rid ∨ k = nrid
theorem Rq.set {h : AHeap} {rid nrid : Nat} {st : St} {l l' : List UInt8} {t' : Tok} {e2 e' : Nat} (h1 : h[rid]? = some (.cells [.ptr nrid 0, .int .i64 (e2 : Nat)])) (hne : rid ≠ nrid) (hn : nrid < h.length)
    (hs : StIs st l' e' e2) (hl : l'.length ≤ 100000000) : Rq (h.set nrid (.cells [.list (l'.map b8) t', .int .i64 (e' : Nat)])) rid nrid st :=
  ⟨l', e', e2, ⟨t', List.getElem?_set_self hn⟩, by rw [List.getElem?_set_ne (fun e => hne e.symm)]; exact h1, hne, hs, hl⟩
theorem Kept.one {h : AHeap} {F : Nat → Prop} {i : Nat} (hi : F i) (o : AObj) : Kept h F (h.set i o) F :=
  ⟨by simp, fun k hk hn => List.getElem?_set_ne fun e => hn (by rw [← e]; exact hi), fun k hk => .inl hk⟩
theorem mnumber_ok (h : AHeap) (rid nrid : Nat) (st : St) (hq : Rq h rid nrid st) :
    ACalls Tryz.prog 40 [.ptr rid 0] h fun r h' => r = .int .i64 (runV rdNum 0 st) ∧ Rq h' rid nrid (runT rdNum st) ∧ Kept h (Fr rid nrid) h' (Fr rid nrid) := by
  obtain ⟨l, e1, e2, hr, h1, hne, hs, hl⟩ := hq
  refine acalls_of_awp Tryz.func40 rfl (by simp only [List.length_cons, List.length_nil]; decide) ?_
  simp only [params_cons, params_nil]
  cases st with
  | error e =>
    obtain ⟨he, hee⟩ := hs
    by_cases h2 : e2 = 0
    · subst h2
      rw [if_pos rfl] at hee
      subst hee
      repeat (first | ((first | refine zd ?_ | refine zx ?_ | refine zk ?_ | refine zl ?_ | refine zr ?_); refine zq ?_) | refine zs ?_ | refine zh (by simp -implicitDefEqProofs (disch := (first | omega | (simp; done) | fail)) [if_pos, if_neg, wrap_i64, tmod_pos, tdiv_pos, Int.toNat_add, h1]; rfl) ?_ | refine zb ?_ | refine zo ?_ | refine zt ?_ | refine zf ?_)
      refine goes_callS (callable_of Tryz.func62) (by simp -implicitDefEqProofs (disch := (first | omega | (simp; done) | fail)) [if_pos, if_neg, wrap_i64, tmod_pos, tdiv_pos, Int.toNat_add] <;> first | rfl | omega) _ (nread_done _ nrid l e1 he hr) ?_
      rintro _ h2 ⟨rfl, rfl⟩
      refine ze ?_
      repeat (first | ((first | refine zd ?_ | refine zx ?_ | refine zk ?_ | refine zl ?_ | refine zr ?_); refine zq ?_) | refine zs ?_ | refine zg ?_ | refine zb ?_ | refine zo ?_ | refine zt ?_ | refine zf ?_)
      first | refine body_all (.inr rfl) (by simp -implicitDefEqProofs; rfl) (by simp -implicitDefEqProofs; rfl) (by first | (simp; done) | (simp; omega) | omega) ?_ | refine body_all (.inl rfl) (by simp -implicitDefEqProofs; rfl) (by simp -implicitDefEqProofs; rfl) (by first | (simp; done) | (simp; omega) | omega) ?_
      exact ⟨by simp [runV], ⟨l, e1, 0, hr, h1, hne, ⟨he, by simp⟩, hl⟩, Kept.refl _ _⟩
    · have h3 : ((e2 : Int) != 0) = true := by simp; omega
      repeat (first | ((first | refine zd ?_ | refine zx ?_ | refine zk ?_ | refine zl ?_ | refine zr ?_); refine zq ?_) | refine zs ?_ | refine zh (by simp -implicitDefEqProofs (disch := (first | omega | (simp; done) | fail)) [if_pos, if_neg, wrap_i64, tmod_pos, tdiv_pos, Int.toNat_add, h1, h3]; rfl) ?_ | refine zb ?_ | refine zo ?_ | refine zt ?_ | refine zf ?_)
      first | refine body_all (.inr rfl) (by simp -implicitDefEqProofs; rfl) (by simp -implicitDefEqProofs; rfl) (by first | (simp; done) | (simp; omega) | omega) ?_ | refine body_all (.inl rfl) (by simp -implicitDefEqProofs; rfl) (by simp -implicitDefEqProofs; rfl) (by first | (simp; done) | (simp; omega) | omega) ?_
      exact ⟨by simp [runV], ⟨l, e1, e2, hr, h1, hne, ⟨he, hee⟩, hl⟩, Kept.refl _ _⟩
  | ok l0 =>
    obtain ⟨rfl, rfl, rfl⟩ := hs
    have hnl : nrid < h.length := by obtain ⟨t, hr⟩ := hr; exact (List.getElem?_eq_some_iff.1 hr).1
    have hk := fun o => Kept.one (h := h) (F := Fr rid nrid) (i := nrid) (.inr rfl) o
    have hq' := fun (st' : St) l' t' e' (hs : StIs st' l' e' 0) (hl : l'.length ≤ 100000000) => Rq.set (t' := t') (l := l') h1 hne hnl hs hl
    clear hnl
    repeat (first | ((first | refine zd ?_ | refine zx ?_ | refine zk ?_ | refine zl ?_ | refine zr ?_); refine zq ?_) | refine zs ?_ | refine zh (by simp -implicitDefEqProofs (disch := (first | omega | (simp; done) | fail)) [if_pos, if_neg, wrap_i64, tmod_pos, tdiv_pos, Int.toNat_add, h1]; rfl) ?_ | refine zb ?_ | refine zo ?_ | refine zt ?_ | refine zf ?_)
    refine goes_callS (callable_of Tryz.func62) (by simp -implicitDefEqProofs (disch := (first | omega | (simp; done) | fail)) [if_pos, if_neg, wrap_i64, tmod_pos, tdiv_pos, Int.toNat_add] <;> first | rfl | omega) _ (nread_ok _ nrid l0 hl hr) ?_
    rintro _ h2 ⟨rfl, l', t', e', rfl, hs, hll⟩
    refine ze ?_
    repeat (first | ((first | refine zd ?_ | refine zx ?_ | refine zk ?_ | refine zl ?_ | refine zr ?_); refine zq ?_) | refine zs ?_ | refine zg ?_ | refine zb ?_ | refine zo ?_ | refine zt ?_ | refine zf ?_)
    first | refine body_all (.inr rfl) (by simp -implicitDefEqProofs; rfl) (by simp -implicitDefEqProofs; rfl) (by first | (simp; done) | (simp; omega) | omega) ?_ | refine body_all (.inl rfl) (by simp -implicitDefEqProofs; rfl) (by simp -implicitDefEqProofs; rfl) (by first | (simp; done) | (simp; omega) | omega) ?_
    exact ⟨rfl, hq' _ l' t' e' hs (Nat.le_trans hll hl), hk _⟩
end Go.Proofs.YtdncoobpdllpkaaGreat.D

/- Bytes as messages: what reading leaves. -/
set_option linter.unusedVariables false
set_option linter.unusedSimpArgs false
set_option maxRecDepth 20000
namespace Go.Proofs.YtdncoobpdllpkaaGreat.D
open Go Go.Proofs.YtdncoobpdllpkaaGreat.V Go.Proofs.YtdncoobpdllpkaaGreat.N
def seqS {α β : Type} (s : Spec α) (t : Spec β) : Spec (α × β) := fun l =>
  match s l with
  | .error e => .error e
  | .ok p => match t p.2 with
    | .error e => .error e
    | .ok q => .ok ((p.1, q.1), q.2)
def mapS {α β : Type} (g : α → β) (s : Spec α) : Spec β := fun l =>
  match s l with
  | .error e => .error e
  | .ok p => .ok (g p.1, p.2)
def nopS : Spec Unit := fun l => .ok ((), l)
theorem runT_nop (st : St) : runT nopS st = st := by cases st <;> rfl
theorem runT_seq {α β : Type} (s : Spec α) (t : Spec β) (st : St) : runT (seqS s t) st = runT t (runT s st) := by
  cases st with
  | error e => rfl
  | ok l =>
    simp only [runT, seqS]
    cases s l with
    | error e => rfl
    | ok p => simp only; cases t p.2 <;> rfl
theorem runT_map {α β : Type} (g : α → β) (s : Spec α) (st : St) : runT (mapS g s) st = runT s st := by
  cases st with
  | error e => rfl
  | ok l => simp only [runT, mapS]; cases s l <;> rfl
def Fr3 (rid nrid tid : Nat) (k : Nat) : Prop := k = rid ∨ k = nrid ∨ k = tid
def RdP {α : Type} (h : AHeap) (rid nrid tid : Nat) (cs : List AV) (off : Nat) (st : St) (k : Nat) (spec : Spec α) (c : α → List AV) (h' : AHeap) : Prop :=
  ∃ new : List AV, new.length = k ∧ h'[tid]? = some (.cells (V.over cs off new)) ∧ Rq h' rid nrid (runT spec st) ∧ (∀ l p, st = .ok l → spec l = .ok p → new = c p.1) ∧ Kept h (Fr3 rid nrid tid) h' (Fr3 rid nrid tid)
theorem over_len {cs vs : List AV} {off : Nat} (h : off + vs.length ≤ cs.length) : (V.over cs off vs).length = cs.length := by
  simp [V.over]; omega
theorem over_nil (cs : List AV) (off : Nat) : V.over cs off [] = cs := by simp [V.over]
theorem over_drop {cs vs : List AV} {off : Nat} (h : off + vs.length ≤ cs.length) : (V.over cs off vs).drop (off + vs.length) = cs.drop (off + vs.length) := by
  unfold V.over
  have e : (cs.take off ++ vs).length = off + vs.length := by simp; omega
  rw [List.drop_left' e]
theorem over_over {cs v1 v2 : List AV} {off : Nat} (h : off + v1.length ≤ cs.length) : V.over (V.over cs off v1) (off + v1.length) v2 = V.over cs off (v1 ++ v2) := by
  have e : (cs.take off ++ v1).length = off + v1.length := by simp; omega
  have e1 : (V.over cs off v1).take (off + v1.length) = cs.take off ++ v1 := by
    unfold V.over; rw [List.take_left' e]
  have e2 : (V.over cs off v1).drop (off + v1.length + v2.length) = cs.drop (off + v1.length + v2.length) := by
    rw [← List.drop_drop, over_drop h, List.drop_drop]
  show (V.over cs off v1).take (off + v1.length) ++ v2 ++ (V.over cs off v1).drop (off + v1.length + v2.length) = _
  rw [e1, e2]
  unfold V.over
  simp [Nat.add_assoc]
theorem RdP.start {h : AHeap} {rid nrid tid : Nat} {cs : List AV} {st : St} (off : Nat) (hq : Rq h rid nrid st) (ht : h[tid]? = some (.cells cs)) : RdP h rid nrid tid cs off st 0 nopS (fun _ => []) h :=
  ⟨[], rfl, by rw [over_nil]; exact ht, by rw [runT_nop]; exact hq, fun _ _ _ _ => rfl, Kept.refl _ _⟩
theorem RdP.step {α β : Type} {h h1 h2 : AHeap} {rid nrid tid : Nat} {cs new : List AV} {off k1 k2 : Nat} {st : St} {s : Spec α} {c : α → List AV} {t : Spec β} {d : β → List AV} (hl : off + k1 ≤ cs.length)
    (r : new.length = k1 ∧ (∀ l p, st = .ok l → s l = .ok p → new = c p.1) ∧ Kept h (Fr3 rid nrid tid) h1 (Fr3 rid nrid tid))
    (q : RdP h1 rid nrid tid (V.over cs off new) (off + k1) (runT s st) k2 t d h2) : RdP h rid nrid tid cs off st (k1 + k2) (seqS s t) (fun p => c p.1 ++ d p.2) h2 := by
  obtain ⟨r1, r2, r3⟩ := r
  obtain ⟨n2, q1, q2, q3, q4, q5⟩ := q
  subst r1
  rw [over_over hl] at q2
  refine ⟨new ++ n2, by simp [q1], q2, by rw [runT_seq]; exact q3, fun l p hst hp => ?_, r3.trans q5⟩
  subst hst
  unfold seqS at hp
  cases hs : s l with
  | error e => rw [hs] at hp; cases hp
  | ok a =>
    rw [hs] at hp
    simp only at hp
    cases ht : t a.2 with
    | error e => rw [ht] at hp; cases hp
    | ok b =>
      rw [ht] at hp
      injection hp with hp
      subst hp
      have hst : runT s (.ok l) = .ok a.2 := by simp [runT, hs]
      simp only
      rw [r2 l a rfl hs, q4 a.2 b hst ht]
theorem RdP.map {α β : Type} {h h' : AHeap} {rid nrid tid : Nat} {cs : List AV} {off k : Nat} {st : St} {s : Spec α} {c : α → List AV} (g : α → β) (d : β → List AV) (hd : ∀ x, d (g x) = c x) (r : RdP h rid nrid tid cs off st k s c h') : RdP h rid nrid tid cs off st k (mapS g s) d h' := by
  obtain ⟨new, r1, r2, r3, r4, r5⟩ := r
  refine ⟨new, r1, r2, by rw [runT_map]; exact r3, fun l p hst hp => ?_, r5⟩
  unfold mapS at hp
  cases hs : s l with
  | error e => rw [hs] at hp; cases hp
  | ok a =>
    rw [hs] at hp
    injection hp with hp
    subst hp
    rw [r4 l a hst hs, hd]
theorem RdP.as {α β : Type} {h h' : AHeap} {rid nrid tid : Nat} {cs : List AV} {off k : Nat} {st : St} {s : Spec α} {c : α → List AV} (r : RdP h rid nrid tid cs off st k s c h') (t : Spec β) (d : β → List AV) (g : α → β) (ht : ∀ l, t l = mapS g s l) (hd : ∀ x, d (g x) = c x) : RdP h rid nrid tid cs off st k t d h' := by
  have := r.map g d hd
  have e : t = mapS g s := funext ht
  rw [e]; exact this
theorem RdP.len {α : Type} {h h' : AHeap} {rid nrid tid : Nat} {cs : List AV} {off k : Nat} {st : St} {s : Spec α} {c : α → List AV} (r : RdP h rid nrid tid cs off st k s c h') : h.length ≤ h'.length := by
  obtain ⟨_, _, _, _, _, k⟩ := r; exact k.1
def Rds {α : Type} (fa : Nat → AV) (f : FuncId) (extra z : List AV) (spec : Spec α) (c : α → List AV) : Prop :=
  ∀ (h : AHeap) (rid nrid tid : Nat) (cs : List AV) (off : Nat) (st : St), Rq h rid nrid st → tid ≠ rid → tid ≠ nrid → h[tid]? = some (.cells cs) → (cs.drop off).take z.length = z → off + z.length ≤ cs.length →
    ACalls Tryz.prog f (fa rid :: .ptr tid off :: extra) h fun r h' => r = .tuple [] ∧ RdP h rid nrid tid cs off st z.length spec c h'
theorem zpart {cs z : List AV} {off k m : Nat} (hz : (cs.drop off).take z.length = z) (hm : k + m ≤ z.length) : (cs.drop (off + k)).take m = (z.drop k).take m := by
  conv => rhs; rw [← hz]
  rw [List.drop_take, List.take_take, List.drop_drop, Nat.min_eq_left (by omega)]
theorem Kept.fr {h h' : AHeap} {rid nrid tid : Nat} (k : Kept h (Fr rid nrid) h' (Fr rid nrid)) : Kept h (Fr3 rid nrid tid) h' (Fr3 rid nrid tid) :=
  ⟨k.1, fun i hi hn => k.2.1 i hi fun e => hn (e.elim .inl fun e => .inr (.inl e)), fun i hi => .inl hi⟩
theorem Rq.tid {h h' : AHeap} {rid nrid tid : Nat} {o : AObj} (k : Kept h (Fr rid nrid) h' (Fr rid nrid)) (ht : h[tid]? = some o) (h1 : tid ≠ rid) (h2 : tid ≠ nrid) : h'[tid]? = some o := by
  rw [k.2.1 tid (List.getElem?_eq_some_iff.1 ht).1 (fun e => e.elim h1 h2)]; exact ht
theorem Rq.put {h : AHeap} {rid nrid tid : Nat} {st : St} {o : AObj} (q : Rq h rid nrid st) (h1 : tid ≠ rid) (h2 : tid ≠ nrid) : Rq (h.set tid o) rid nrid st := by
  obtain ⟨l, e1, e2, ⟨t, r1⟩, r2, r3, r4, r5⟩ := q
  exact ⟨l, e1, e2, ⟨t, by rw [List.getElem?_set_ne h2]; exact r1⟩, by rw [List.getElem?_set_ne h1]; exact r2, r3, r4, r5⟩
theorem runV_ok {α : Type} {f : Spec α} {d : α} {st : St} {l : List UInt8} {p : α × List UInt8} (h1 : st = .ok l) (h2 : f l = .ok p) : runV f d st = p.1 := by
  subst h1; simp [runV, h2]
def pm (rid : Nat) : AV := .ptr rid 0
theorem mrnum_x (h : AHeap) (rid nrid tid : Nat) (cs : List AV) (off : Nat) (st : St) (hq : Rq h rid nrid st) (hn1 : tid ≠ rid) (hn2 : tid ≠ nrid) (ht : h[tid]? = some (.cells cs)) (hl : off + 1 ≤ cs.length) :
    ACalls Tryz.prog 137 [.ptr rid 0, .ptr tid off] h fun r h' => r = .tuple [] ∧ h'[tid]? = some (.cells (V.over cs off [iv (runV rdNum 0 st)])) ∧ Rq h' rid nrid (runT rdNum st) ∧ Kept h (Fr3 rid nrid tid) h' (Fr3 rid nrid tid) := by
  refine acalls_of_awp Tryz.func137 rfl (by simp only [List.length_cons, List.length_nil]; decide) ?_
  simp only [params_cons, params_nil]
  repeat (first | ((first | refine zd ?_ | refine zx ?_ | refine zk ?_ | refine zl ?_ | refine zr ?_); refine zq ?_) | refine zs ?_ | refine zg ?_ | refine zb ?_ | refine zo ?_ | refine zt ?_ | refine zf ?_)
  refine goes_callS (callable_of Tryz.func40) (by simp -implicitDefEqProofs (disch := (first | omega | (simp; done) | fail)) [if_pos, if_neg, wrap_i64, tmod_pos, tdiv_pos, Int.toNat_add] <;> first | rfl | omega) _ (mnumber_ok _ rid nrid st hq) ?_
  rintro _ h1 ⟨rfl, hq1, k1⟩
  have ht1 := Rq.tid k1 ht hn1 hn2
  have hkl := k1.1
  refine goes_eq (by simp -implicitDefEqProofs (disch := (first | omega | (simp; done) | fail)) [if_pos, if_neg, wrap_i64, tmod_pos, tdiv_pos, Int.toNat_add, ht1, hl]; rfl) ?_
  repeat (first | ((first | refine zd ?_ | refine zx ?_ | refine zk ?_ | refine zl ?_ | refine zr ?_); refine zq ?_) | refine zs ?_ | refine zh (by simp -implicitDefEqProofs (disch := (first | omega | (simp; done) | fail)) [if_pos, if_neg, wrap_i64, tmod_pos, tdiv_pos, Int.toNat_add, ht1, hl]; rfl) ?_ | refine zb ?_ | refine zo ?_ | refine zt ?_ | refine zf ?_)
  first | refine body_all (.inr rfl) (by simp -implicitDefEqProofs; rfl) (by simp -implicitDefEqProofs; rfl) (by first | (simp; done) | (simp; omega) | omega) ?_ | refine body_all (.inl rfl) (by simp -implicitDefEqProofs; rfl) (by simp -implicitDefEqProofs; rfl) (by first | (simp; done) | (simp; omega) | omega) ?_
  refine ⟨rfl, ?_, hq1.put hn1 hn2, (Kept.fr k1).trans (Kept.one (.inr (.inr rfl)) _)⟩
  rw [List.getElem?_set_self (List.getElem?_eq_some_iff.1 ht1).1]
  simp [V.over]
theorem mrnum_ok : Rds pm 137 [] [iv 0] rdNum (fun n => [iv n]) := by
  rintro h rid nrid tid cs off st hq hn1 hn2 ht hz hl
  exact (mrnum_x h rid nrid tid cs off st hq hn1 hn2 ht hl).mono fun r h' ⟨a, b, c, d⟩ => ⟨a, [iv (runV rdNum 0 st)], rfl, b, c, fun l p h1 h2 => by rw [runV_ok h1 h2], d⟩
end Go.Proofs.YtdncoobpdllpkaaGreat.D

/- Bytes as messages: texts, sizes, numbers of other types, small things. -/
set_option linter.unusedVariables false
set_option linter.unusedSimpArgs false
set_option maxRecDepth 20000
namespace Go.Proofs.YtdncoobpdllpkaaGreat.D
open Go Go.Proofs.YtdncoobpdllpkaaGreat.V Go.Proofs.YtdncoobpdllpkaaGreat.N
theorem mrtext_ok : Rds pm 139 [] [.str []] rdText (fun s => [.str s]) := by
  rintro h rid nrid tid cs off st hq hn1 hn2 ht hz hl
  simp only [List.length_singleton] at hl
  have htl := (List.getElem?_eq_some_iff.1 ht).1
  have hs0 : ∀ x, (h.set tid x)[tid]? = some x := fun x => List.getElem?_set_self htl
  have hq0 := hq.put (o := .cells (cs.take off ++ .str [] :: cs.drop (off + 1))) hn1 hn2
  have k0 := Kept.one (h := h) (F := Fr3 rid nrid tid) (i := tid) (.inr (.inr rfl)) (.cells (cs.take off ++ .str [] :: cs.drop (off + 1)))
  have ht0 := hs0 (.cells (cs.take off ++ .str [] :: cs.drop (off + 1)))
  have hov : V.over (cs.take off ++ .str [] :: cs.drop (off + 1)) off [.str []] = cs.take off ++ .str [] :: cs.drop (off + 1) := by
    have e := over_over (cs := cs) (v1 := []) (v2 := [.str []]) (off := off) (by simp; omega)
    have hto : (cs.take off).length = off := by simp; omega
    unfold V.over
    rw [List.take_left' hto, List.length_singleton]
    have : (cs.take off ++ AV.str [] :: cs.drop (off + 1)) = (cs.take off ++ [AV.str []]) ++ cs.drop (off + 1) := by simp
    rw [this, List.drop_left' (by simp; omega)]
  have hov2 : ∀ s, (cs.take off ++ AV.str [] :: cs.drop (off + 1)).take off ++ AV.str s :: (cs.take off ++ AV.str [] :: cs.drop (off + 1)).drop (off + 1) = cs.take off ++ .str s :: cs.drop (off + 1) := fun s => by
    have hto : (cs.take off).length = off := by simp; omega
    rw [List.take_left' hto]
    have : (cs.take off ++ AV.str [] :: cs.drop (off + 1)) = (cs.take off ++ [AV.str []]) ++ cs.drop (off + 1) := by simp
    rw [this, List.drop_left' (by simp; omega)]
  have hlc : off < (cs.take off ++ AV.str [] :: cs.drop (off + 1)).length := by simp; omega
  clear htl
  unfold pm
  refine acalls_of_awp Tryz.func139 rfl (by simp only [List.length_cons, List.length_nil]; decide) ?_
  simp only [params_cons, params_nil]
  generalize hc1 : cs.take off ++ AV.str [] :: cs.drop (off + 1) = c1 at *
  generalize hh1 : h.set tid (.cells c1) = h1 at *
  obtain ⟨l, e1, e2, hr, h2, hne, hs, hll⟩ := hq0
  have hkl := k0.1
  cases st with
  | error e =>
    obtain ⟨he, hee⟩ := hs
    by_cases h3 : e2 = 0
    · subst h3
      rw [if_pos rfl] at hee
      subst hee
      have hq1 : Rq h1 rid nrid (.error e1) := ⟨l, e1, 0, hr, h2, hne, ⟨he, by simp⟩, hll⟩
      repeat (first | ((first | refine zd ?_ | refine zx ?_ | refine zk ?_ | refine zl ?_ | refine zr ?_); refine zq ?_) | refine zs ?_ | refine zh (by simp -implicitDefEqProofs (disch := (first | omega | (simp; done) | fail)) [if_pos, if_neg, wrap_i64, tmod_pos, tdiv_pos, Int.toNat_add, ht, hl, hc1, hh1, h2]; rfl) ?_ | refine zb ?_ | refine zo ?_ | refine zt ?_ | refine zf ?_)
      refine goes_callS (callable_of Tryz.func140) (by simp -implicitDefEqProofs (disch := (first | omega | (simp; done) | fail)) [if_pos, if_neg, wrap_i64, tmod_pos, tdiv_pos, Int.toNat_add] <;> first | rfl | omega) _ (ntext_done _ nrid l e1 he hr) ?_
      rintro _ h3 ⟨rfl, rfl⟩
      refine goes_eq (by simp -implicitDefEqProofs (disch := (first | omega | (simp; done) | fail)) [if_pos, if_neg, wrap_i64, tmod_pos, tdiv_pos, Int.toNat_add, ht0, hlc, hov2]; rfl) ?_
      repeat (first | ((first | refine zd ?_ | refine zx ?_ | refine zk ?_ | refine zl ?_ | refine zr ?_); refine zq ?_) | refine zs ?_ | refine zg ?_ | refine zb ?_ | refine zo ?_ | refine zt ?_ | refine zf ?_)
      first | refine body_all (.inr rfl) (by simp -implicitDefEqProofs; rfl) (by simp -implicitDefEqProofs; rfl) (by first | (simp; done) | (simp; omega) | omega) ?_ | refine body_all (.inl rfl) (by simp -implicitDefEqProofs; rfl) (by simp -implicitDefEqProofs; rfl) (by first | (simp; done) | (simp; omega) | omega) ?_
      refine ⟨rfl, [.str []], rfl, ?_, hq1.put hn1 hn2, fun l p h1 h2 => (by cases h1), k0.trans (Kept.one (.inr (.inr rfl)) _)⟩
      rw [List.getElem?_set_self (List.getElem?_eq_some_iff.1 ht0).1]
      simp [V.over]
    · have hq1 : Rq h1 rid nrid (.error e) := ⟨l, e1, e2, hr, h2, hne, ⟨he, hee⟩, hll⟩
      have h5 : ((e2 : Int) == 0) = false := by simp; omega
      repeat (first | ((first | refine zd ?_ | refine zx ?_ | refine zk ?_ | refine zl ?_ | refine zr ?_); refine zq ?_) | refine zs ?_ | refine zh (by simp -implicitDefEqProofs (disch := (first | omega | (simp; done) | fail)) [if_pos, if_neg, wrap_i64, tmod_pos, tdiv_pos, Int.toNat_add, ht, hl, hc1, hh1, h2, h5]; rfl) ?_ | refine zb ?_ | refine zo ?_ | refine zt ?_ | refine zf ?_)
      first | refine body_all (.inr rfl) (by simp -implicitDefEqProofs; rfl) (by simp -implicitDefEqProofs; rfl) (by first | (simp; done) | (simp; omega) | omega) ?_ | refine body_all (.inl rfl) (by simp -implicitDefEqProofs; rfl) (by simp -implicitDefEqProofs; rfl) (by first | (simp; done) | (simp; omega) | omega) ?_
      refine ⟨rfl, [.str []], rfl, ?_, hq1, fun l p h1 h2 => (by cases h1), k0⟩
      rw [ht0, ← hc1]
      simp [V.over]
  | ok l0 =>
    obtain ⟨rfl, rfl, rfl⟩ := hs
    have hnl : nrid < h1.length := by obtain ⟨t, hr⟩ := hr; exact (List.getElem?_eq_some_iff.1 hr).1
    have hq' := fun (st' : St) l' t' e' (hs : StIs st' l' e' 0) (hl : l'.length ≤ 100000000) => Rq.set (t' := t') (l := l') h2 hne hnl hs hl
    have hk := fun o => Kept.one (h := h1) (F := Fr3 rid nrid tid) (i := nrid) (.inr (.inl rfl)) o
    have htn : ∀ o, (h1.set nrid o)[tid]? = some (.cells c1) := fun o => by rw [List.getElem?_set_ne (fun e => hn2 e.symm)]; exact ht0
    clear hnl
    repeat (first | ((first | refine zd ?_ | refine zx ?_ | refine zk ?_ | refine zl ?_ | refine zr ?_); refine zq ?_) | refine zs ?_ | refine zh (by simp -implicitDefEqProofs (disch := (first | omega | (simp; done) | fail)) [if_pos, if_neg, wrap_i64, tmod_pos, tdiv_pos, Int.toNat_add, ht, hl, hc1, hh1, h2]; rfl) ?_ | refine zb ?_ | refine zo ?_ | refine zt ?_ | refine zf ?_)
    refine goes_callS (callable_of Tryz.func140) (by simp -implicitDefEqProofs (disch := (first | omega | (simp; done) | fail)) [if_pos, if_neg, wrap_i64, tmod_pos, tdiv_pos, Int.toNat_add] <;> first | rfl | omega) _ (ntext_ok _ nrid l0 hll hr) ?_
    rintro _ h3 ⟨rfl, l', t', e', rfl, hs, hll2⟩
    refine goes_eq (by simp -implicitDefEqProofs (disch := (first | omega | (simp; done) | fail)) [if_pos, if_neg, wrap_i64, tmod_pos, tdiv_pos, Int.toNat_add, htn, hlc, hov2]; rfl) ?_
    repeat (first | ((first | refine zd ?_ | refine zx ?_ | refine zk ?_ | refine zl ?_ | refine zr ?_); refine zq ?_) | refine zs ?_ | refine zg ?_ | refine zb ?_ | refine zo ?_ | refine zt ?_ | refine zf ?_)
    first | refine body_all (.inr rfl) (by simp -implicitDefEqProofs; rfl) (by simp -implicitDefEqProofs; rfl) (by first | (simp; done) | (simp; omega) | omega) ?_ | refine body_all (.inl rfl) (by simp -implicitDefEqProofs; rfl) (by simp -implicitDefEqProofs; rfl) (by first | (simp; done) | (simp; omega) | omega) ?_
    refine ⟨rfl, [.str (runV rdText [] (.ok l0))], rfl, ?_, (hq' _ l' t' e' hs (Nat.le_trans hll2 hll)).put hn1 hn2, fun l p h1 h2 => (by rw [runV_ok h1 h2]), (k0.trans (hk _)).trans (Kept.one (.inr (.inr rfl)) _)⟩
    rw [List.getElem?_set_self (List.getElem?_eq_some_iff.1 (htn _)).1]
    simp [V.over]
end Go.Proofs.YtdncoobpdllpkaaGreat.D

/- Bytes as messages: sizes, the end, numbers of other types, small things. -/
set_option linter.unusedVariables false
set_option linter.unusedSimpArgs false
set_option maxRecDepth 20000
namespace Go.Proofs.YtdncoobpdllpkaaGreat.D
open Go Go.Proofs.YtdncoobpdllpkaaGreat.V Go.Proofs.YtdncoobpdllpkaaGreat.N
theorem Rq.spoil {h : AHeap} {rid nrid : Nat} {l : List UInt8} (q : Rq h rid nrid (.ok l)) : ∃ x, h[rid]? = some (.cells [.ptr nrid 0, .int .i64 x]) ∧ Rq (h.set rid (.cells [.ptr nrid 0, .int .i64 13])) rid nrid (.error 13) ∧ Kept h (Fr rid nrid) (h.set rid (.cells [.ptr nrid 0, .int .i64 13])) (Fr rid nrid) := by
  obtain ⟨l1, e1, e2, ⟨t, r1⟩, r2, r3, ⟨rfl, rfl, rfl⟩, r5⟩ := q
  have hl := (List.getElem?_eq_some_iff.1 r2).1
  exact ⟨_, r2, ⟨_, 0, 13, ⟨t, by rw [List.getElem?_set_ne r3]; exact r1⟩, List.getElem?_set_self hl, r3, ⟨by decide, by simp⟩, r5⟩, Kept.one (.inl rfl) _⟩
theorem runT_size (st : St) : runV rdNum 0 st ≤ 1024 → runV rdSize 0 st = (runV rdNum 0 st).toNat ∧ runT rdSize st = runT rdNum st := by
  intro h
  cases st with
  | error e => exact ⟨rfl, rfl⟩
  | ok l =>
    unfold runV runT rdNum rdSize at *
    by_cases he : (numB l).2.2 = 0
    · simp only [he, if_true] at h ⊢
      have : ¬ 1024 < (numB l).1 := by omega
      simp [this]
    · simp [he]
theorem runT_size_big (st : St) : ¬ runV rdNum 0 st ≤ 1024 → runV rdSize 0 st = 0 ∧ runT rdSize st = .error 13 ∧ ∃ l, runT rdNum st = .ok l := by
  intro h
  cases st with
  | error e => exact absurd (by simp [runV]) h
  | ok l =>
    unfold runV runT rdNum rdSize at *
    by_cases he : (numB l).2.2 = 0
    · simp only [he, if_true] at h ⊢
      have : 1024 < (numB l).1 := by omega
      simp [this]
    · simp [he] at h
theorem runV_num_nonneg (st : St) : 0 ≤ runV rdNum 0 st := by
  cases st with
  | error e => simp [runV]
  | ok l =>
    unfold runV rdNum
    by_cases he : (numB l).2.2 = 0 <;> simp [he]
theorem msz_ok (h : AHeap) (rid nrid : Nat) (st : St) (n0 : Int) (hq : Rq h rid nrid st) :
    ACalls Tryz.prog 138 [.ptr rid 0, .int .i64 n0] h fun r h' => r = .int .i64 (runV rdSize 0 st : Nat) ∧ Rq h' rid nrid (runT rdSize st) ∧ Kept h (Fr rid nrid) h' (Fr rid nrid) := by
  have hnn := runV_num_nonneg st
  refine acalls_of_awp Tryz.func138 rfl (by simp only [List.length_cons, List.length_nil]; decide) ?_
  simp only [params_cons, params_nil]
  repeat (first | ((first | refine zd ?_ | refine zx ?_ | refine zk ?_ | refine zl ?_ | refine zr ?_); refine zq ?_) | refine zs ?_ | refine zg ?_ | refine zb ?_ | refine zo ?_ | refine zt ?_ | refine zf ?_)
  refine goes_callS (callable_of Tryz.func40) (by simp -implicitDefEqProofs (disch := (first | omega | (simp; done) | fail)) [if_pos, if_neg, wrap_i64, tmod_pos, tdiv_pos, Int.toNat_add] <;> first | rfl | omega) _ (mnumber_ok _ rid nrid st hq) ?_
  rintro _ h1 ⟨rfl, hq1, k1⟩
  have hkl := k1.1
  by_cases hb : runV rdNum 0 st ≤ 1024
  · obtain ⟨e1, e2⟩ := runT_size st hb
    have hb' : ¬ (1024 : Int) < runV rdNum 0 st := by omega
    refine ze ?_
    repeat (first | ((first | refine zd ?_ | refine zx ?_ | refine zk ?_ | refine zl ?_ | refine zr ?_); refine zq ?_) | refine zs ?_ | refine zh (by simp -implicitDefEqProofs (disch := (first | omega | (simp; done) | fail)) [if_pos, if_neg, wrap_i64, tmod_pos, tdiv_pos, Int.toNat_add, hb']; rfl) ?_ | refine zb ?_ | refine zo ?_ | refine zt ?_ | refine zf ?_)
    first | refine body_all (.inr rfl) (by simp -implicitDefEqProofs; rfl) (by simp -implicitDefEqProofs; rfl) (by first | (simp; done) | (simp; omega) | omega) ?_ | refine body_all (.inl rfl) (by simp -implicitDefEqProofs; rfl) (by simp -implicitDefEqProofs; rfl) (by first | (simp; done) | (simp; omega) | omega) ?_
    exact ⟨by rw [e1]; simp; omega, by rw [e2]; exact hq1, k1⟩
  · obtain ⟨e1, e2, l, e3⟩ := runT_size_big st hb
    have hb' : (1024 : Int) < runV rdNum 0 st := by omega
    rw [e3] at hq1
    obtain ⟨x, hx, hq2, k2⟩ := hq1.spoil
    refine ze ?_
    repeat (first | ((first | refine zd ?_ | refine zx ?_ | refine zk ?_ | refine zl ?_ | refine zr ?_); refine zq ?_) | refine zs ?_ | refine zh (by simp -implicitDefEqProofs (disch := (first | omega | (simp; done) | fail)) [if_pos, if_neg, wrap_i64, tmod_pos, tdiv_pos, Int.toNat_add, hb', hx]; rfl) ?_ | refine zb ?_ | refine zo ?_ | refine zt ?_ | refine zf ?_)
    first | refine body_all (.inr rfl) (by simp -implicitDefEqProofs; rfl) (by simp -implicitDefEqProofs; rfl) (by first | (simp; done) | (simp; omega) | omega) ?_ | refine body_all (.inl rfl) (by simp -implicitDefEqProofs; rfl) (by simp -implicitDefEqProofs; rfl) (by first | (simp; done) | (simp; omega) | omega) ?_
    exact ⟨by rw [e1]; simp, by rw [e2]; exact hq2, k1.trans k2⟩
def endE : St → Int
  | .error e => (e : Nat)
  | .ok l => if l = [] then 0 else 11
theorem mend_ok (h : AHeap) (rid nrid : Nat) (st : St) (hq : Rq h rid nrid st) :
    ACalls Tryz.prog 41 [.ptr rid 0] h fun r h' => r = .int .i64 (endE st) ∧ h' = h := by
  obtain ⟨l, e1, e2, hr, h2, hne, hs, hll⟩ := hq
  refine acalls_of_awp Tryz.func41 rfl (by simp only [List.length_cons, List.length_nil]; decide) ?_
  simp only [params_cons, params_nil]
  by_cases h3 : e2 = 0
  · subst h3
    repeat (first | ((first | refine zd ?_ | refine zx ?_ | refine zk ?_ | refine zl ?_ | refine zr ?_); refine zq ?_) | refine zs ?_ | refine zh (by simp -implicitDefEqProofs (disch := (first | omega | (simp; done) | fail)) [if_pos, if_neg, wrap_i64, tmod_pos, tdiv_pos, Int.toNat_add, h2]; rfl) ?_ | refine zb ?_ | refine zo ?_ | refine zt ?_ | refine zf ?_)
    refine goes_callS (callable_of Tryz.func63) (by simp -implicitDefEqProofs (disch := (first | omega | (simp; done) | fail)) [if_pos, if_neg, wrap_i64, tmod_pos, tdiv_pos, Int.toNat_add] <;> first | rfl | omega) _ (rend_ok _ nrid l e1 hr) ?_
    rintro _ h3 ⟨rfl, rfl⟩
    refine ze ?_
    repeat (first | ((first | refine zd ?_ | refine zx ?_ | refine zk ?_ | refine zl ?_ | refine zr ?_); refine zq ?_) | refine zs ?_ | refine zg ?_ | refine zb ?_ | refine zo ?_ | refine zt ?_ | refine zf ?_)
    first | refine zY (.inr rfl) ?_ | refine zY (.inl rfl) ?_
    cases st with
    | error e =>
      obtain ⟨he, hee⟩ := hs
      rw [if_pos rfl] at hee
      subst hee
      simp [endE, he]
    | ok l0 =>
      obtain ⟨rfl, -, rfl⟩ := hs
      by_cases hl : l0 = [] <;> simp [endE, hl]
  · have h5 : ((e2 : Int) != 0) = true := by simp; omega
    repeat (first | ((first | refine zd ?_ | refine zx ?_ | refine zk ?_ | refine zl ?_ | refine zr ?_); refine zq ?_) | refine zs ?_ | refine zh (by simp -implicitDefEqProofs (disch := (first | omega | (simp; done) | fail)) [if_pos, if_neg, wrap_i64, tmod_pos, tdiv_pos, Int.toNat_add, h2, h5]; rfl) ?_ | refine zb ?_ | refine zo ?_ | refine zt ?_ | refine zf ?_)
    first | refine zY (.inr rfl) ?_ | refine zY (.inl rfl) ?_
    cases st with
    | error e =>
      obtain ⟨he, hee⟩ := hs
      rw [if_neg h3] at hee
      subst hee
      simp [endE]
    | ok l0 =>
      obtain ⟨-, h6, -⟩ := hs
      exact absurd h6 h3
theorem Rq.app {h : AHeap} {rid nrid : Nat} {st : St} (q : Rq h rid nrid st) (x : AHeap) : Rq (h ++ x) rid nrid st := by
  obtain ⟨l, e1, e2, ⟨t, r1⟩, r2, r3, r4, r5⟩ := q
  exact ⟨l, e1, e2, ⟨t, by rw [List.getElem?_append_left (List.getElem?_eq_some_iff.1 r1).1]; exact r1⟩, by rw [List.getElem?_append_left (List.getElem?_eq_some_iff.1 r2).1]; exact r2, r3, r4, r5⟩
theorem Rq.lt {h : AHeap} {rid nrid : Nat} {st : St} (q : Rq h rid nrid st) : ¬ h.length = rid ∧ ¬ h.length = nrid := by
  obtain ⟨l, e1, e2, ⟨t, r1⟩, r2, r3, r4, r5⟩ := q
  have h1 := (List.getElem?_eq_some_iff.1 r1).1
  have h2 := (List.getElem?_eq_some_iff.1 r2).1
  exact ⟨by omega, by omega⟩
theorem rasStatus_ok : Rds rv 75 [] [iv 0] rdNum (fun n => [iv n]) := by
    rintro h rid nrid tid cs off st hq hn1 hn2 ht hz hl
    simp only [List.length_singleton] at hl hz
    have hc : cs[off]? = some (iv 0) := by
      have := congrArg (fun l => l[0]?) hz
      simpa using this
    obtain ⟨ne1, ne2⟩ := hq.lt
    have hbox : (h ++ [.cells [iv 0]])[h.length]? = some (.cells [iv 0]) := by simp
    have hlB : decide (off + 1 ≤ cs.length) = true := by simpa using hl
    clear hl
    unfold rv
    refine acalls_of_awp Tryz.func75 rfl (by simp only [List.length_cons, List.length_nil]; decide) ?_
    simp only [params_cons, params_nil]
    repeat (first | ((first | refine zd ?_ | refine zx ?_ | refine zk ?_ | refine zl ?_ | refine zr ?_); refine zq ?_) | refine zs ?_ | refine zh (by simp -implicitDefEqProofs (disch := (first | omega | (simp; done) | fail)) [if_pos, if_neg, wrap_i64, tmod_pos, tdiv_pos, Int.toNat_add, ht, hc]; rfl) ?_ | refine zb ?_ | refine zo ?_ | refine zt ?_ | refine zf ?_)
    refine goes_callS (callable_of Tryz.func137) (by simp -implicitDefEqProofs (disch := (first | omega | (simp; done) | fail)) [if_pos, if_neg, wrap_i64, tmod_pos, tdiv_pos, Int.toNat_add, pm, iv] <;> first | rfl | omega) _ (mrnum_x (h ++ [.cells [iv 0]]) rid nrid h.length [iv 0] 0 st (hq.app _) ne1 ne2 hbox (by simp)) ?_
    rintro _ h1 ⟨rfl, hb1, hq1, k1⟩
    have htl : tid < h.length := (List.getElem?_eq_some_iff.1 ht).1
    have ht1 : h1[tid]? = some (.cells cs) := by
      rw [k1.2.1 tid (by simp; omega) (fun e => e.elim hn1 fun e => e.elim hn2 fun e => by omega), List.getElem?_append_left htl]
      exact ht
    have hkl : h.length ≤ h1.length := by have := k1.1; simp at this; omega
    have hk : Kept h (Fr3 rid nrid tid) h1 (Fr3 rid nrid tid) :=
      ⟨hkl, fun i hi hn => by rw [k1.2.1 i (by simp; omega) (fun e => e.elim (fun e => hn (.inl e)) fun e => e.elim (fun e => hn (.inr (.inl e))) fun e => by omega), List.getElem?_append_left hi], fun i hi => .inl hi⟩
    clear htl
    simp only [V.over, List.take_zero, List.nil_append, List.length_singleton, Nat.zero_add, List.drop_succ_cons, List.drop_zero, List.append_nil] at hb1
    have hl := of_decide_eq_true hlB
    refine ze ?_
    repeat (first | ((first | refine zd ?_ | refine zx ?_ | refine zk ?_ | refine zl ?_ | refine zr ?_); refine zq ?_) | refine zs ?_ | refine zh (by simp -implicitDefEqProofs (disch := (first | omega | (simp; done) | fail)) [if_pos, if_neg, wrap_i64, tmod_pos, tdiv_pos, Int.toNat_add, hb1, ht1, hl]; rfl) ?_ | refine zb ?_ | refine zo ?_ | refine zt ?_ | refine zf ?_)
    first | refine body_all (.inr rfl) (by simp -implicitDefEqProofs; rfl) (by simp -implicitDefEqProofs; rfl) (by first | (simp; done) | (simp; omega) | omega) ?_ | refine body_all (.inl rfl) (by simp -implicitDefEqProofs; rfl) (by simp -implicitDefEqProofs; rfl) (by first | (simp; done) | (simp; omega) | omega) ?_
    refine ⟨rfl, [iv (runV rdNum 0 st)], rfl, ?_, hq1.put hn1 hn2, fun l p h1 h2 => (by rw [runV_ok h1 h2]), hk.trans (Kept.one (.inr (.inr rfl)) _)⟩
    rw [List.getElem?_set_self (List.getElem?_eq_some_iff.1 ht1).1]
    simp [V.over]
theorem rasOp_ok : Rds rv 88 [] [iv 0] rdNum (fun n => [iv n]) := by
  rintro h rid nrid tid cs off st hq hn1 hn2 ht hz hl
  simp only [List.length_singleton] at hl hz
  have hc : cs[off]? = some (iv 0) := by
    have := congrArg (fun l => l[0]?) hz
    simpa using this
  obtain ⟨ne1, ne2⟩ := hq.lt
  have hbox : (h ++ [.cells [iv 0]])[h.length]? = some (.cells [iv 0]) := by simp
  have hlB : decide (off + 1 ≤ cs.length) = true := by simpa using hl
  clear hl
  unfold rv
  refine acalls_of_awp Tryz.func88 rfl (by simp only [List.length_cons, List.length_nil]; decide) ?_
  simp only [params_cons, params_nil]
  repeat (first | ((first | refine zd ?_ | refine zx ?_ | refine zk ?_ | refine zl ?_ | refine zr ?_); refine zq ?_) | refine zs ?_ | refine zh (by simp -implicitDefEqProofs (disch := (first | omega | (simp; done) | fail)) [if_pos, if_neg, wrap_i64, tmod_pos, tdiv_pos, Int.toNat_add, ht, hc]; rfl) ?_ | refine zb ?_ | refine zo ?_ | refine zt ?_ | refine zf ?_)
  refine goes_callS (callable_of Tryz.func137) (by simp -implicitDefEqProofs (disch := (first | omega | (simp; done) | fail)) [if_pos, if_neg, wrap_i64, tmod_pos, tdiv_pos, Int.toNat_add, pm, iv] <;> first | rfl | omega) _ (mrnum_x (h ++ [.cells [iv 0]]) rid nrid h.length [iv 0] 0 st (hq.app _) ne1 ne2 hbox (by simp)) ?_
  rintro _ h1 ⟨rfl, hb1, hq1, k1⟩
  have htl : tid < h.length := (List.getElem?_eq_some_iff.1 ht).1
  have ht1 : h1[tid]? = some (.cells cs) := by
    rw [k1.2.1 tid (by simp; omega) (fun e => e.elim hn1 fun e => e.elim hn2 fun e => by omega), List.getElem?_append_left htl]
    exact ht
  have hkl : h.length ≤ h1.length := by have := k1.1; simp at this; omega
  have hk : Kept h (Fr3 rid nrid tid) h1 (Fr3 rid nrid tid) :=
    ⟨hkl, fun i hi hn => by rw [k1.2.1 i (by simp; omega) (fun e => e.elim (fun e => hn (.inl e)) fun e => e.elim (fun e => hn (.inr (.inl e))) fun e => by omega), List.getElem?_append_left hi], fun i hi => .inl hi⟩
  clear htl
  simp only [V.over, List.take_zero, List.nil_append, List.length_singleton, Nat.zero_add, List.drop_succ_cons, List.drop_zero, List.append_nil] at hb1
  have hl := of_decide_eq_true hlB
  refine ze ?_
  repeat (first | ((first | refine zd ?_ | refine zx ?_ | refine zk ?_ | refine zl ?_ | refine zr ?_); refine zq ?_) | refine zs ?_ | refine zh (by simp -implicitDefEqProofs (disch := (first | omega | (simp; done) | fail)) [if_pos, if_neg, wrap_i64, tmod_pos, tdiv_pos, Int.toNat_add, hb1, ht1, hl]; rfl) ?_ | refine zb ?_ | refine zo ?_ | refine zt ?_ | refine zf ?_)
  first | refine body_all (.inr rfl) (by simp -implicitDefEqProofs; rfl) (by simp -implicitDefEqProofs; rfl) (by first | (simp; done) | (simp; omega) | omega) ?_ | refine body_all (.inl rfl) (by simp -implicitDefEqProofs; rfl) (by simp -implicitDefEqProofs; rfl) (by first | (simp; done) | (simp; omega) | omega) ?_
  refine ⟨rfl, [iv (runV rdNum 0 st)], rfl, ?_, hq1.put hn1 hn2, fun l p h1 h2 => (by rw [runV_ok h1 h2]), hk.trans (Kept.one (.inr (.inr rfl)) _)⟩
  rw [List.getElem?_set_self (List.getElem?_eq_some_iff.1 ht1).1]
  simp [V.over]
theorem rasErr_ok : Rds rv 95 [] [iv 0] rdNum (fun n => [iv n]) := by
  rintro h rid nrid tid cs off st hq hn1 hn2 ht hz hl
  simp only [List.length_singleton] at hl hz
  have hc : cs[off]? = some (iv 0) := by
    have := congrArg (fun l => l[0]?) hz
    simpa using this
  obtain ⟨ne1, ne2⟩ := hq.lt
  have hbox : (h ++ [.cells [iv 0]])[h.length]? = some (.cells [iv 0]) := by simp
  have hlB : decide (off + 1 ≤ cs.length) = true := by simpa using hl
  clear hl
  unfold rv
  refine acalls_of_awp Tryz.func95 rfl (by simp only [List.length_cons, List.length_nil]; decide) ?_
  simp only [params_cons, params_nil]
  repeat (first | ((first | refine zd ?_ | refine zx ?_ | refine zk ?_ | refine zl ?_ | refine zr ?_); refine zq ?_) | refine zs ?_ | refine zh (by simp -implicitDefEqProofs (disch := (first | omega | (simp; done) | fail)) [if_pos, if_neg, wrap_i64, tmod_pos, tdiv_pos, Int.toNat_add, ht, hc]; rfl) ?_ | refine zb ?_ | refine zo ?_ | refine zt ?_ | refine zf ?_)
  refine goes_callS (callable_of Tryz.func137) (by simp -implicitDefEqProofs (disch := (first | omega | (simp; done) | fail)) [if_pos, if_neg, wrap_i64, tmod_pos, tdiv_pos, Int.toNat_add, pm, iv] <;> first | rfl | omega) _ (mrnum_x (h ++ [.cells [iv 0]]) rid nrid h.length [iv 0] 0 st (hq.app _) ne1 ne2 hbox (by simp)) ?_
  rintro _ h1 ⟨rfl, hb1, hq1, k1⟩
  have htl : tid < h.length := (List.getElem?_eq_some_iff.1 ht).1
  have ht1 : h1[tid]? = some (.cells cs) := by
    rw [k1.2.1 tid (by simp; omega) (fun e => e.elim hn1 fun e => e.elim hn2 fun e => by omega), List.getElem?_append_left htl]
    exact ht
  have hkl : h.length ≤ h1.length := by have := k1.1; simp at this; omega
  have hk : Kept h (Fr3 rid nrid tid) h1 (Fr3 rid nrid tid) :=
    ⟨hkl, fun i hi hn => by rw [k1.2.1 i (by simp; omega) (fun e => e.elim (fun e => hn (.inl e)) fun e => e.elim (fun e => hn (.inr (.inl e))) fun e => by omega), List.getElem?_append_left hi], fun i hi => .inl hi⟩
  clear htl
  simp only [V.over, List.take_zero, List.nil_append, List.length_singleton, Nat.zero_add, List.drop_succ_cons, List.drop_zero, List.append_nil] at hb1
  have hl := of_decide_eq_true hlB
  refine ze ?_
  repeat (first | ((first | refine zd ?_ | refine zx ?_ | refine zk ?_ | refine zl ?_ | refine zr ?_); refine zq ?_) | refine zs ?_ | refine zh (by simp -implicitDefEqProofs (disch := (first | omega | (simp; done) | fail)) [if_pos, if_neg, wrap_i64, tmod_pos, tdiv_pos, Int.toNat_add, hb1, ht1, hl]; rfl) ?_ | refine zb ?_ | refine zo ?_ | refine zt ?_ | refine zf ?_)
  first | refine body_all (.inr rfl) (by simp -implicitDefEqProofs; rfl) (by simp -implicitDefEqProofs; rfl) (by first | (simp; done) | (simp; omega) | omega) ?_ | refine body_all (.inl rfl) (by simp -implicitDefEqProofs; rfl) (by simp -implicitDefEqProofs; rfl) (by first | (simp; done) | (simp; omega) | omega) ?_
  refine ⟨rfl, [iv (runV rdNum 0 st)], rfl, ?_, hq1.put hn1 hn2, fun l p h1 h2 => (by rw [runV_ok h1 h2]), hk.trans (Kept.one (.inr (.inr rfl)) _)⟩
  rw [List.getElem?_set_self (List.getElem?_eq_some_iff.1 ht1).1]
  simp [V.over]
end Go.Proofs.YtdncoobpdllpkaaGreat.D

/- Bytes as messages: things are read. -/
set_option linter.unusedVariables false
set_option linter.unusedSimpArgs false
set_option maxRecDepth 20000
namespace Go.Proofs.YtdncoobpdllpkaaGreat.D
open Go Go.Proofs.YtdncoobpdllpkaaGreat.V Go.Proofs.YtdncoobpdllpkaaGreat.N
theorem RdP.z {cs z new : List AV} {off k m : Nat} (hz : (cs.drop off).take z.length = z) (hn : new.length = k) (hm : k + m ≤ z.length) (hl : off + z.length ≤ cs.length) : ((V.over cs off new).drop (off + k)).take m = (z.drop k).take m := by
  subst hn
  rw [over_drop (by omega)]
  exact zpart hz hm
def RdQ {α : Type} (h : AHeap) (rid nrid tid : Nat) (new : List AV) (k : Nat) (st : St) (spec : Spec α) (c : α → List AV) (h' : AHeap) : Prop :=
  new.length = k ∧ (∀ l p, st = .ok l → spec l = .ok p → new = c p.1) ∧ Kept h (Fr3 rid nrid tid) h' (Fr3 rid nrid tid)
theorem RdP.cut {α : Type} {h h' : AHeap} {rid nrid tid : Nat} {cs : List AV} {off k : Nat} {st : St} {s : Spec α} {c : α → List AV} (r : RdP h rid nrid tid cs off st k s c h') : ∃ new, RdQ h rid nrid tid new k st s c h' ∧ new.length = k ∧ h'[tid]? = some (.cells (V.over cs off new)) ∧ Rq h' rid nrid (runT s st) := by
  obtain ⟨new, r1, r2, r3, r4, r5⟩ := r
  exact ⟨new, ⟨r1, r4, r5⟩, r1, r2, r3⟩
theorem RdP.go {α β : Type} {h h1 h2 : AHeap} {rid nrid tid : Nat} {cs new : List AV} {off k1 k2 : Nat} {st : St} {s : Spec α} {c : α → List AV} {t : Spec β} {d : β → List AV} (hl : off + k1 ≤ cs.length)
    (r : RdQ h rid nrid tid new k1 st s c h1)
    (q : RdP h1 rid nrid tid (V.over cs off new) (off + k1) (runT s st) k2 t d h2) : RdP h rid nrid tid cs off st (k1 + k2) (seqS s t) (fun p => c p.1 ++ d p.2) h2 := RdP.step hl r q
def rdId : Spec Iid := mapS (fun p => ⟨p.1.1.2, p.1.2, p.2⟩) (seqS (seqS (seqS nopS rdNum) rdNum) rdNum)
def rdBal : Spec Bal := mapS (fun p => ⟨p.1.2, p.2⟩) (seqS (seqS nopS rdNum) rdNum)
theorem rid_ok : Rds rv 55 [] [iv 0, iv 0, iv 0] rdId Iid.c := by
  rintro h rid nrid tid cs off st hq hn1 hn2 ht hz hl
  have rp : RdP h rid nrid tid cs off st 0 nopS (fun _ => []) h := RdP.start off hq ht
  unfold rv
  refine acalls_of_awp Tryz.func55 rfl (by simp only [List.length_cons, List.length_nil]; decide) ?_
  simp only [params_cons, params_nil]
  (try refine awp_seq ?_)
  refine awp_draw (.q 0 (.q 1 (.q 2 (.q 3 (.q 4 (.q 5 (.q 6 (.a 7 (.done))))))))) (by kernel_rfl) (by kernel_rfl) (tree_start (goesT_eq (by simp -implicitDefEqProofs (disch := (first | omega | (simp; done) | fail)) [if_pos, if_neg, wrap_i64, tmod_pos, tdiv_pos, Int.toNat_add, rv]; rfl) ?_))
  obtain ⟨new, rq, hnl, r2, r3⟩ := rp.cut
  have hz' := RdP.z (m := 1) hz hnl (by simp) hl
  have hl' : off + 0 + 1 ≤ (V.over cs off new).length := by simp only [List.length_cons, List.length_nil, List.length_append, Nat.zero_add] at hnl hl; rw [over_len (by omega)]; omega
  have hbf : off + 0 ≤ cs.length := (by simp only [List.length_cons, List.length_nil, List.length_append, Nat.zero_add] at hl; omega)
  refine goesT_callS (callable_of Tryz.func137) (by simp -implicitDefEqProofs (disch := (first | omega | (simp; done) | fail)) [if_pos, if_neg, wrap_i64, tmod_pos, tdiv_pos, Int.toNat_add, rv, pm] <;> first | rfl | omega) _ ((mrnum_ok) _ rid nrid tid _ (off + 0) _ r3 hn1 hn2 r2 hz' hl') ?_
  rintro _ h' ⟨rfl, rp'⟩
  replace rp := RdP.go hbf rq rp'
  clear rq hnl r2 r3 rp' hz' hl' hbf
  refine zE ?_
  refine goesT_done ?_
  (try simp only [vq, if_true, reduceIte, Nat.reduceEqDiff, reduceCtorEq])
  (try refine awp_seq ?_)
  refine awp_draw (.q 0 (.q 1 (.q 2 (.q 3 (.q 4 (.q 5 (.q 6 (.a 7 (.done))))))))) (by kernel_rfl) (by kernel_rfl) (tree_start (goesT_eq (by simp -implicitDefEqProofs (disch := (first | omega | (simp; done) | fail)) [if_pos, if_neg, wrap_i64, tmod_pos, tdiv_pos, Int.toNat_add, rv]; rfl) ?_))
  obtain ⟨new, rq, hnl, r2, r3⟩ := rp.cut
  have hz' := RdP.z (m := 1) hz hnl (by simp) hl
  have hl' : off + 1 + 1 ≤ (V.over cs off new).length := by simp only [List.length_cons, List.length_nil, List.length_append, Nat.zero_add] at hnl hl; rw [over_len (by omega)]; omega
  have hbf : off + 1 ≤ cs.length := (by simp only [List.length_cons, List.length_nil, List.length_append, Nat.zero_add] at hl; omega)
  refine goesT_callS (callable_of Tryz.func137) (by simp -implicitDefEqProofs (disch := (first | omega | (simp; done) | fail)) [if_pos, if_neg, wrap_i64, tmod_pos, tdiv_pos, Int.toNat_add, rv, pm] <;> first | rfl | omega) _ ((mrnum_ok) _ rid nrid tid _ (off + 1) _ r3 hn1 hn2 r2 hz' hl') ?_
  rintro _ h' ⟨rfl, rp'⟩
  replace rp := RdP.go hbf rq rp'
  clear rq hnl r2 r3 rp' hz' hl' hbf
  refine zE ?_
  refine goesT_done ?_
  (try simp only [vq, if_true, reduceIte, Nat.reduceEqDiff, reduceCtorEq])
  (try refine awp_seq ?_)
  refine awp_draw (.q 0 (.q 1 (.q 2 (.q 3 (.q 4 (.q 5 (.q 6 (.a 7 (.done))))))))) (by kernel_rfl) (by kernel_rfl) (tree_start (goesT_eq (by simp -implicitDefEqProofs (disch := (first | omega | (simp; done) | fail)) [if_pos, if_neg, wrap_i64, tmod_pos, tdiv_pos, Int.toNat_add, rv]; rfl) ?_))
  obtain ⟨new, rq, hnl, r2, r3⟩ := rp.cut
  have hz' := RdP.z (m := 1) hz hnl (by simp) hl
  have hl' : off + 2 + 1 ≤ (V.over cs off new).length := by simp only [List.length_cons, List.length_nil, List.length_append, Nat.zero_add] at hnl hl; rw [over_len (by omega)]; omega
  have hbf : off + 2 ≤ cs.length := (by simp only [List.length_cons, List.length_nil, List.length_append, Nat.zero_add] at hl; omega)
  refine goesT_callS (callable_of Tryz.func137) (by simp -implicitDefEqProofs (disch := (first | omega | (simp; done) | fail)) [if_pos, if_neg, wrap_i64, tmod_pos, tdiv_pos, Int.toNat_add, rv, pm] <;> first | rfl | omega) _ ((mrnum_ok) _ rid nrid tid _ (off + 2) _ r3 hn1 hn2 r2 hz' hl') ?_
  rintro _ h' ⟨rfl, rp'⟩
  replace rp := RdP.go hbf rq rp'
  clear rq hnl r2 r3 rp' hz' hl' hbf
  refine zE ?_
  refine goesT_done ?_
  (try simp only [vq, if_true, reduceIte, Nat.reduceEqDiff, reduceCtorEq])
  have hkl := rp.len
  first | refine body_all (.inr rfl) (by simp -implicitDefEqProofs; rfl) (by simp -implicitDefEqProofs; rfl) (by first | (simp; done) | (simp; omega) | omega) ?_ | refine body_all (.inl rfl) (by simp -implicitDefEqProofs; rfl) (by simp -implicitDefEqProofs; rfl) (by first | (simp; done) | (simp; omega) | omega) ?_
  exact ⟨rfl, rp.as rdId Iid.c (fun p => ⟨p.1.1.2, p.1.2, p.2⟩) (fun _ => rfl) (fun _ => rfl)⟩
theorem rballot_ok : Rds rv 76 [] [iv 0, iv 0] rdBal Bal.c := by
  rintro h rid nrid tid cs off st hq hn1 hn2 ht hz hl
  have rp : RdP h rid nrid tid cs off st 0 nopS (fun _ => []) h := RdP.start off hq ht
  unfold rv
  refine acalls_of_awp Tryz.func76 rfl (by simp only [List.length_cons, List.length_nil]; decide) ?_
  simp only [params_cons, params_nil]
  (try refine awp_seq ?_)
  refine awp_draw (.q 0 (.q 1 (.q 2 (.q 3 (.q 4 (.q 5 (.q 6 (.a 7 (.done))))))))) (by kernel_rfl) (by kernel_rfl) (tree_start (goesT_eq (by simp -implicitDefEqProofs (disch := (first | omega | (simp; done) | fail)) [if_pos, if_neg, wrap_i64, tmod_pos, tdiv_pos, Int.toNat_add, rv]; rfl) ?_))
  obtain ⟨new, rq, hnl, r2, r3⟩ := rp.cut
  have hz' := RdP.z (m := 1) hz hnl (by simp) hl
  have hl' : off + 0 + 1 ≤ (V.over cs off new).length := by simp only [List.length_cons, List.length_nil, List.length_append, Nat.zero_add] at hnl hl; rw [over_len (by omega)]; omega
  have hbf : off + 0 ≤ cs.length := (by simp only [List.length_cons, List.length_nil, List.length_append, Nat.zero_add] at hl; omega)
  refine goesT_callS (callable_of Tryz.func137) (by simp -implicitDefEqProofs (disch := (first | omega | (simp; done) | fail)) [if_pos, if_neg, wrap_i64, tmod_pos, tdiv_pos, Int.toNat_add, rv, pm] <;> first | rfl | omega) _ ((mrnum_ok) _ rid nrid tid _ (off + 0) _ r3 hn1 hn2 r2 hz' hl') ?_
  rintro _ h' ⟨rfl, rp'⟩
  replace rp := RdP.go hbf rq rp'
  clear rq hnl r2 r3 rp' hz' hl' hbf
  refine zE ?_
  refine goesT_done ?_
  (try simp only [vq, if_true, reduceIte, Nat.reduceEqDiff, reduceCtorEq])
  (try refine awp_seq ?_)
  refine awp_draw (.q 0 (.q 1 (.q 2 (.q 3 (.q 4 (.q 5 (.q 6 (.a 7 (.done))))))))) (by kernel_rfl) (by kernel_rfl) (tree_start (goesT_eq (by simp -implicitDefEqProofs (disch := (first | omega | (simp; done) | fail)) [if_pos, if_neg, wrap_i64, tmod_pos, tdiv_pos, Int.toNat_add, rv]; rfl) ?_))
  obtain ⟨new, rq, hnl, r2, r3⟩ := rp.cut
  have hz' := RdP.z (m := 1) hz hnl (by simp) hl
  have hl' : off + 1 + 1 ≤ (V.over cs off new).length := by simp only [List.length_cons, List.length_nil, List.length_append, Nat.zero_add] at hnl hl; rw [over_len (by omega)]; omega
  have hbf : off + 1 ≤ cs.length := (by simp only [List.length_cons, List.length_nil, List.length_append, Nat.zero_add] at hl; omega)
  refine goesT_callS (callable_of Tryz.func137) (by simp -implicitDefEqProofs (disch := (first | omega | (simp; done) | fail)) [if_pos, if_neg, wrap_i64, tmod_pos, tdiv_pos, Int.toNat_add, rv, pm] <;> first | rfl | omega) _ ((mrnum_ok) _ rid nrid tid _ (off + 1) _ r3 hn1 hn2 r2 hz' hl') ?_
  rintro _ h' ⟨rfl, rp'⟩
  replace rp := RdP.go hbf rq rp'
  clear rq hnl r2 r3 rp' hz' hl' hbf
  refine zE ?_
  refine goesT_done ?_
  (try simp only [vq, if_true, reduceIte, Nat.reduceEqDiff, reduceCtorEq])
  have hkl := rp.len
  first | refine body_all (.inr rfl) (by simp -implicitDefEqProofs; rfl) (by simp -implicitDefEqProofs; rfl) (by first | (simp; done) | (simp; omega) | omega) ?_ | refine body_all (.inl rfl) (by simp -implicitDefEqProofs; rfl) (by simp -implicitDefEqProofs; rfl) (by first | (simp; done) | (simp; omega) | omega) ?_
  exact ⟨rfl, rp.as rdBal Bal.c (fun p => ⟨p.1.2, p.2⟩) (fun _ => rfl) (fun _ => rfl)⟩
def rdCmd : Spec Cmd := mapS (fun p => ⟨p.1.1.1.1.1.1.1.2, p.1.1.1.1.1.1.2, p.1.1.1.1.1.2, p.1.1.1.1.2, p.1.1.1.2, p.1.1.2, p.1.2, p.2⟩) (seqS (seqS (seqS (seqS (seqS (seqS (seqS (seqS nopS rdNum) rdNum) rdNum) rdText) rdText) rdNum) rdNum) rdNum)
theorem rcommand_ok : Rds rv 77 [] [iv 0, iv 0, iv 0, .str [], .str [], iv 0, iv 0, iv 0] rdCmd Cmd.c := by
  rintro h rid nrid tid cs off st hq hn1 hn2 ht hz hl
  have rp : RdP h rid nrid tid cs off st 0 nopS (fun _ => []) h := RdP.start off hq ht
  unfold rv
  refine acalls_of_awp Tryz.func77 rfl (by simp only [List.length_cons, List.length_nil]; decide) ?_
  simp only [params_cons, params_nil]
  (try refine awp_seq ?_)
  refine awp_draw (.q 0 (.q 1 (.q 2 (.q 3 (.q 4 (.q 5 (.q 6 (.a 7 (.done))))))))) (by kernel_rfl) (by kernel_rfl) (tree_start (goesT_eq (by simp -implicitDefEqProofs (disch := (first | omega | (simp; done) | fail)) [if_pos, if_neg, wrap_i64, tmod_pos, tdiv_pos, Int.toNat_add, rv]; rfl) ?_))
  obtain ⟨new, rq, hnl, r2, r3⟩ := rp.cut
  have hz' := RdP.z (m := 1) hz hnl (by simp) hl
  have hl' : off + 0 + 1 ≤ (V.over cs off new).length := by simp only [List.length_cons, List.length_nil, List.length_append, Nat.zero_add] at hnl hl; rw [over_len (by omega)]; omega
  have hbf : off + 0 ≤ cs.length := (by simp only [List.length_cons, List.length_nil, List.length_append, Nat.zero_add] at hl; omega)
  refine goesT_callS (callable_of Tryz.func137) (by simp -implicitDefEqProofs (disch := (first | omega | (simp; done) | fail)) [if_pos, if_neg, wrap_i64, tmod_pos, tdiv_pos, Int.toNat_add, rv, pm] <;> first | rfl | omega) _ ((mrnum_ok) _ rid nrid tid _ (off + 0) _ r3 hn1 hn2 r2 hz' hl') ?_
  rintro _ h' ⟨rfl, rp'⟩
  replace rp := RdP.go hbf rq rp'
  clear rq hnl r2 r3 rp' hz' hl' hbf
  refine zE ?_
  refine goesT_done ?_
  (try simp only [vq, if_true, reduceIte, Nat.reduceEqDiff, reduceCtorEq])
  (try refine awp_seq ?_)
  refine awp_draw (.q 0 (.q 1 (.q 2 (.q 3 (.q 4 (.q 5 (.q 6 (.a 7 (.done))))))))) (by kernel_rfl) (by kernel_rfl) (tree_start (goesT_eq (by simp -implicitDefEqProofs (disch := (first | omega | (simp; done) | fail)) [if_pos, if_neg, wrap_i64, tmod_pos, tdiv_pos, Int.toNat_add, rv]; rfl) ?_))
  obtain ⟨new, rq, hnl, r2, r3⟩ := rp.cut
  have hz' := RdP.z (m := 1) hz hnl (by simp) hl
  have hl' : off + 1 + 1 ≤ (V.over cs off new).length := by simp only [List.length_cons, List.length_nil, List.length_append, Nat.zero_add] at hnl hl; rw [over_len (by omega)]; omega
  have hbf : off + 1 ≤ cs.length := (by simp only [List.length_cons, List.length_nil, List.length_append, Nat.zero_add] at hl; omega)
  refine goesT_callS (callable_of Tryz.func137) (by simp -implicitDefEqProofs (disch := (first | omega | (simp; done) | fail)) [if_pos, if_neg, wrap_i64, tmod_pos, tdiv_pos, Int.toNat_add, rv, pm] <;> first | rfl | omega) _ ((mrnum_ok) _ rid nrid tid _ (off + 1) _ r3 hn1 hn2 r2 hz' hl') ?_
  rintro _ h' ⟨rfl, rp'⟩
  replace rp := RdP.go hbf rq rp'
  clear rq hnl r2 r3 rp' hz' hl' hbf
  refine zE ?_
  refine goesT_done ?_
  (try simp only [vq, if_true, reduceIte, Nat.reduceEqDiff, reduceCtorEq])
  repeat (first | ((first | refine zd ?_ | refine zx ?_ | refine zk ?_ | refine zl ?_ | refine zr ?_); refine zq ?_) | refine zs ?_ | refine zh (by simp -implicitDefEqProofs (disch := (first | omega | (simp; done) | fail)) [if_pos, if_neg, wrap_i64, tmod_pos, tdiv_pos, Int.toNat_add, rv]; rfl) ?_ | refine zb ?_ | refine zo ?_ | refine zt ?_ | refine zf ?_)
  obtain ⟨new, rq, hnl, r2, r3⟩ := rp.cut
  have hz' := RdP.z (m := 1) hz hnl (by simp) hl
  have hl' : off + 2 + 1 ≤ (V.over cs off new).length := by simp only [List.length_cons, List.length_nil, List.length_append, Nat.zero_add] at hnl hl; rw [over_len (by omega)]; omega
  have hbf : off + 2 ≤ cs.length := (by simp only [List.length_cons, List.length_nil, List.length_append, Nat.zero_add] at hl; omega)
  refine goes_callS (callable_of Tryz.func88) (by simp -implicitDefEqProofs (disch := (first | omega | (simp; done) | fail)) [if_pos, if_neg, wrap_i64, tmod_pos, tdiv_pos, Int.toNat_add, rv, pm, rv] <;> first | rfl | omega) _ ((rasOp_ok) _ rid nrid tid _ (off + 2) _ r3 hn1 hn2 r2 hz' hl') ?_
  rintro _ h' ⟨rfl, rp'⟩
  replace rp := RdP.go hbf rq rp'
  clear rq hnl r2 r3 rp' hz' hl' hbf
  refine goes_eq (by simp -implicitDefEqProofs (disch := (first | omega | (simp; done) | fail)) [if_pos, if_neg, wrap_i64, tmod_pos, tdiv_pos, Int.toNat_add, rv]; rfl) ?_
  (refine goes_done ?_; (try simp only [vq, if_true, reduceIte, Nat.reduceEqDiff, reduceCtorEq]))
  (try refine awp_seq ?_)
  refine awp_draw (.q 0 (.q 1 (.q 2 (.q 3 (.q 4 (.q 5 (.q 6 (.a 7 (.done))))))))) (by kernel_rfl) (by kernel_rfl) (tree_start (goesT_eq (by simp -implicitDefEqProofs (disch := (first | omega | (simp; done) | fail)) [if_pos, if_neg, wrap_i64, tmod_pos, tdiv_pos, Int.toNat_add, rv]; rfl) ?_))
  obtain ⟨new, rq, hnl, r2, r3⟩ := rp.cut
  have hz' := RdP.z (m := 1) hz hnl (by simp) hl
  have hl' : off + 3 + 1 ≤ (V.over cs off new).length := by simp only [List.length_cons, List.length_nil, List.length_append, Nat.zero_add] at hnl hl; rw [over_len (by omega)]; omega
  have hbf : off + 3 ≤ cs.length := (by simp only [List.length_cons, List.length_nil, List.length_append, Nat.zero_add] at hl; omega)
  refine goesT_callS (callable_of Tryz.func139) (by simp -implicitDefEqProofs (disch := (first | omega | (simp; done) | fail)) [if_pos, if_neg, wrap_i64, tmod_pos, tdiv_pos, Int.toNat_add, rv, pm] <;> first | rfl | omega) _ ((mrtext_ok) _ rid nrid tid _ (off + 3) _ r3 hn1 hn2 r2 hz' hl') ?_
  rintro _ h' ⟨rfl, rp'⟩
  replace rp := RdP.go hbf rq rp'
  clear rq hnl r2 r3 rp' hz' hl' hbf
  refine zE ?_
  refine goesT_done ?_
  (try simp only [vq, if_true, reduceIte, Nat.reduceEqDiff, reduceCtorEq])
  (try refine awp_seq ?_)
  refine awp_draw (.q 0 (.q 1 (.q 2 (.q 3 (.q 4 (.q 5 (.q 6 (.a 7 (.done))))))))) (by kernel_rfl) (by kernel_rfl) (tree_start (goesT_eq (by simp -implicitDefEqProofs (disch := (first | omega | (simp; done) | fail)) [if_pos, if_neg, wrap_i64, tmod_pos, tdiv_pos, Int.toNat_add, rv]; rfl) ?_))
  obtain ⟨new, rq, hnl, r2, r3⟩ := rp.cut
  have hz' := RdP.z (m := 1) hz hnl (by simp) hl
  have hl' : off + 4 + 1 ≤ (V.over cs off new).length := by simp only [List.length_cons, List.length_nil, List.length_append, Nat.zero_add] at hnl hl; rw [over_len (by omega)]; omega
  have hbf : off + 4 ≤ cs.length := (by simp only [List.length_cons, List.length_nil, List.length_append, Nat.zero_add] at hl; omega)
  refine goesT_callS (callable_of Tryz.func139) (by simp -implicitDefEqProofs (disch := (first | omega | (simp; done) | fail)) [if_pos, if_neg, wrap_i64, tmod_pos, tdiv_pos, Int.toNat_add, rv, pm] <;> first | rfl | omega) _ ((mrtext_ok) _ rid nrid tid _ (off + 4) _ r3 hn1 hn2 r2 hz' hl') ?_
  rintro _ h' ⟨rfl, rp'⟩
  replace rp := RdP.go hbf rq rp'
  clear rq hnl r2 r3 rp' hz' hl' hbf
  refine zE ?_
  refine goesT_done ?_
  (try simp only [vq, if_true, reduceIte, Nat.reduceEqDiff, reduceCtorEq])
  (try refine awp_seq ?_)
  refine awp_draw (.q 0 (.q 1 (.q 2 (.q 3 (.q 4 (.q 5 (.q 6 (.a 7 (.done))))))))) (by kernel_rfl) (by kernel_rfl) (tree_start (goesT_eq (by simp -implicitDefEqProofs (disch := (first | omega | (simp; done) | fail)) [if_pos, if_neg, wrap_i64, tmod_pos, tdiv_pos, Int.toNat_add, rv]; rfl) ?_))
  obtain ⟨new, rq, hnl, r2, r3⟩ := rp.cut
  have hz' := RdP.z (m := 1) hz hnl (by simp) hl
  have hl' : off + 5 + 1 ≤ (V.over cs off new).length := by simp only [List.length_cons, List.length_nil, List.length_append, Nat.zero_add] at hnl hl; rw [over_len (by omega)]; omega
  have hbf : off + 5 ≤ cs.length := (by simp only [List.length_cons, List.length_nil, List.length_append, Nat.zero_add] at hl; omega)
  refine goesT_callS (callable_of Tryz.func137) (by simp -implicitDefEqProofs (disch := (first | omega | (simp; done) | fail)) [if_pos, if_neg, wrap_i64, tmod_pos, tdiv_pos, Int.toNat_add, rv, pm] <;> first | rfl | omega) _ ((mrnum_ok) _ rid nrid tid _ (off + 5) _ r3 hn1 hn2 r2 hz' hl') ?_
  rintro _ h' ⟨rfl, rp'⟩
  replace rp := RdP.go hbf rq rp'
  clear rq hnl r2 r3 rp' hz' hl' hbf
  refine zE ?_
  refine goesT_done ?_
  (try simp only [vq, if_true, reduceIte, Nat.reduceEqDiff, reduceCtorEq])
  (try refine awp_seq ?_)
  refine awp_draw (.q 0 (.q 1 (.q 2 (.q 3 (.q 4 (.q 5 (.q 6 (.a 7 (.done))))))))) (by kernel_rfl) (by kernel_rfl) (tree_start (goesT_eq (by simp -implicitDefEqProofs (disch := (first | omega | (simp; done) | fail)) [if_pos, if_neg, wrap_i64, tmod_pos, tdiv_pos, Int.toNat_add, rv]; rfl) ?_))
  obtain ⟨new, rq, hnl, r2, r3⟩ := rp.cut
  have hz' := RdP.z (m := 1) hz hnl (by simp) hl
  have hl' : off + 6 + 1 ≤ (V.over cs off new).length := by simp only [List.length_cons, List.length_nil, List.length_append, Nat.zero_add] at hnl hl; rw [over_len (by omega)]; omega
  have hbf : off + 6 ≤ cs.length := (by simp only [List.length_cons, List.length_nil, List.length_append, Nat.zero_add] at hl; omega)
  refine goesT_callS (callable_of Tryz.func137) (by simp -implicitDefEqProofs (disch := (first | omega | (simp; done) | fail)) [if_pos, if_neg, wrap_i64, tmod_pos, tdiv_pos, Int.toNat_add, rv, pm] <;> first | rfl | omega) _ ((mrnum_ok) _ rid nrid tid _ (off + 6) _ r3 hn1 hn2 r2 hz' hl') ?_
  rintro _ h' ⟨rfl, rp'⟩
  replace rp := RdP.go hbf rq rp'
  clear rq hnl r2 r3 rp' hz' hl' hbf
  refine zE ?_
  refine goesT_done ?_
  (try simp only [vq, if_true, reduceIte, Nat.reduceEqDiff, reduceCtorEq])
  (try refine awp_seq ?_)
  refine awp_draw (.q 0 (.q 1 (.q 2 (.q 3 (.q 4 (.q 5 (.q 6 (.a 7 (.done))))))))) (by kernel_rfl) (by kernel_rfl) (tree_start (goesT_eq (by simp -implicitDefEqProofs (disch := (first | omega | (simp; done) | fail)) [if_pos, if_neg, wrap_i64, tmod_pos, tdiv_pos, Int.toNat_add, rv]; rfl) ?_))
  obtain ⟨new, rq, hnl, r2, r3⟩ := rp.cut
  have hz' := RdP.z (m := 1) hz hnl (by simp) hl
  have hl' : off + 7 + 1 ≤ (V.over cs off new).length := by simp only [List.length_cons, List.length_nil, List.length_append, Nat.zero_add] at hnl hl; rw [over_len (by omega)]; omega
  have hbf : off + 7 ≤ cs.length := (by simp only [List.length_cons, List.length_nil, List.length_append, Nat.zero_add] at hl; omega)
  refine goesT_callS (callable_of Tryz.func137) (by simp -implicitDefEqProofs (disch := (first | omega | (simp; done) | fail)) [if_pos, if_neg, wrap_i64, tmod_pos, tdiv_pos, Int.toNat_add, rv, pm] <;> first | rfl | omega) _ ((mrnum_ok) _ rid nrid tid _ (off + 7) _ r3 hn1 hn2 r2 hz' hl') ?_
  rintro _ h' ⟨rfl, rp'⟩
  replace rp := RdP.go hbf rq rp'
  clear rq hnl r2 r3 rp' hz' hl' hbf
  refine zE ?_
  refine goesT_done ?_
  (try simp only [vq, if_true, reduceIte, Nat.reduceEqDiff, reduceCtorEq])
  have hkl := rp.len
  first | refine body_all (.inr rfl) (by simp -implicitDefEqProofs; rfl) (by simp -implicitDefEqProofs; rfl) (by first | (simp; done) | (simp; omega) | omega) ?_ | refine body_all (.inl rfl) (by simp -implicitDefEqProofs; rfl) (by simp -implicitDefEqProofs; rfl) (by first | (simp; done) | (simp; omega) | omega) ?_
  exact ⟨rfl, rp.as rdCmd Cmd.c (fun p => ⟨p.1.1.1.1.1.1.1.2, p.1.1.1.1.1.1.2, p.1.1.1.1.1.2, p.1.1.1.1.2, p.1.1.1.2, p.1.1.2, p.1.2, p.2⟩) (fun _ => rfl) (fun _ => rfl)⟩
def rdEntry : Spec Entry := mapS (fun p => ⟨p.1.1.2, p.1.2, p.2⟩) (seqS (seqS (seqS nopS rdText) rdText) rdNum)
theorem rentry_ok : Rds rv 72 [] [.str [], .str [], iv 0] rdEntry Entry.c := by
  rintro h rid nrid tid cs off st hq hn1 hn2 ht hz hl
  have rp : RdP h rid nrid tid cs off st 0 nopS (fun _ => []) h := RdP.start off hq ht
  unfold rv
  refine acalls_of_awp Tryz.func72 rfl (by simp only [List.length_cons, List.length_nil]; decide) ?_
  simp only [params_cons, params_nil]
  (try refine awp_seq ?_)
  refine awp_draw (.q 0 (.q 1 (.q 2 (.q 3 (.q 4 (.q 5 (.q 6 (.a 7 (.done))))))))) (by kernel_rfl) (by kernel_rfl) (tree_start (goesT_eq (by simp -implicitDefEqProofs (disch := (first | omega | (simp; done) | fail)) [if_pos, if_neg, wrap_i64, tmod_pos, tdiv_pos, Int.toNat_add, rv]; rfl) ?_))
  obtain ⟨new, rq, hnl, r2, r3⟩ := rp.cut
  have hz' := RdP.z (m := 1) hz hnl (by simp) hl
  have hl' : off + 0 + 1 ≤ (V.over cs off new).length := by simp only [List.length_cons, List.length_nil, List.length_append, Nat.zero_add] at hnl hl; rw [over_len (by omega)]; omega
  have hbf : off + 0 ≤ cs.length := (by simp only [List.length_cons, List.length_nil, List.length_append, Nat.zero_add] at hl; omega)
  refine goesT_callS (callable_of Tryz.func139) (by simp -implicitDefEqProofs (disch := (first | omega | (simp; done) | fail)) [if_pos, if_neg, wrap_i64, tmod_pos, tdiv_pos, Int.toNat_add, rv, pm] <;> first | rfl | omega) _ ((mrtext_ok) _ rid nrid tid _ (off + 0) _ r3 hn1 hn2 r2 hz' hl') ?_
  rintro _ h' ⟨rfl, rp'⟩
  replace rp := RdP.go hbf rq rp'
  clear rq hnl r2 r3 rp' hz' hl' hbf
  refine zE ?_
  refine goesT_done ?_
  (try simp only [vq, if_true, reduceIte, Nat.reduceEqDiff, reduceCtorEq])
  (try refine awp_seq ?_)
  refine awp_draw (.q 0 (.q 1 (.q 2 (.q 3 (.q 4 (.q 5 (.q 6 (.a 7 (.done))))))))) (by kernel_rfl) (by kernel_rfl) (tree_start (goesT_eq (by simp -implicitDefEqProofs (disch := (first | omega | (simp; done) | fail)) [if_pos, if_neg, wrap_i64, tmod_pos, tdiv_pos, Int.toNat_add, rv]; rfl) ?_))
  obtain ⟨new, rq, hnl, r2, r3⟩ := rp.cut
  have hz' := RdP.z (m := 1) hz hnl (by simp) hl
  have hl' : off + 1 + 1 ≤ (V.over cs off new).length := by simp only [List.length_cons, List.length_nil, List.length_append, Nat.zero_add] at hnl hl; rw [over_len (by omega)]; omega
  have hbf : off + 1 ≤ cs.length := (by simp only [List.length_cons, List.length_nil, List.length_append, Nat.zero_add] at hl; omega)
  refine goesT_callS (callable_of Tryz.func139) (by simp -implicitDefEqProofs (disch := (first | omega | (simp; done) | fail)) [if_pos, if_neg, wrap_i64, tmod_pos, tdiv_pos, Int.toNat_add, rv, pm] <;> first | rfl | omega) _ ((mrtext_ok) _ rid nrid tid _ (off + 1) _ r3 hn1 hn2 r2 hz' hl') ?_
  rintro _ h' ⟨rfl, rp'⟩
  replace rp := RdP.go hbf rq rp'
  clear rq hnl r2 r3 rp' hz' hl' hbf
  refine zE ?_
  refine goesT_done ?_
  (try simp only [vq, if_true, reduceIte, Nat.reduceEqDiff, reduceCtorEq])
  (try refine awp_seq ?_)
  refine awp_draw (.q 0 (.q 1 (.q 2 (.q 3 (.q 4 (.q 5 (.q 6 (.a 7 (.done))))))))) (by kernel_rfl) (by kernel_rfl) (tree_start (goesT_eq (by simp -implicitDefEqProofs (disch := (first | omega | (simp; done) | fail)) [if_pos, if_neg, wrap_i64, tmod_pos, tdiv_pos, Int.toNat_add, rv]; rfl) ?_))
  obtain ⟨new, rq, hnl, r2, r3⟩ := rp.cut
  have hz' := RdP.z (m := 1) hz hnl (by simp) hl
  have hl' : off + 2 + 1 ≤ (V.over cs off new).length := by simp only [List.length_cons, List.length_nil, List.length_append, Nat.zero_add] at hnl hl; rw [over_len (by omega)]; omega
  have hbf : off + 2 ≤ cs.length := (by simp only [List.length_cons, List.length_nil, List.length_append, Nat.zero_add] at hl; omega)
  refine goesT_callS (callable_of Tryz.func137) (by simp -implicitDefEqProofs (disch := (first | omega | (simp; done) | fail)) [if_pos, if_neg, wrap_i64, tmod_pos, tdiv_pos, Int.toNat_add, rv, pm] <;> first | rfl | omega) _ ((mrnum_ok) _ rid nrid tid _ (off + 2) _ r3 hn1 hn2 r2 hz' hl') ?_
  rintro _ h' ⟨rfl, rp'⟩
  replace rp := RdP.go hbf rq rp'
  clear rq hnl r2 r3 rp' hz' hl' hbf
  refine zE ?_
  refine goesT_done ?_
  (try simp only [vq, if_true, reduceIte, Nat.reduceEqDiff, reduceCtorEq])
  have hkl := rp.len
  first | refine body_all (.inr rfl) (by simp -implicitDefEqProofs; rfl) (by simp -implicitDefEqProofs; rfl) (by first | (simp; done) | (simp; omega) | omega) ?_ | refine body_all (.inl rfl) (by simp -implicitDefEqProofs; rfl) (by simp -implicitDefEqProofs; rfl) (by first | (simp; done) | (simp; omega) | omega) ?_
  exact ⟨rfl, rp.as rdEntry Entry.c (fun p => ⟨p.1.1.2, p.1.2, p.2⟩) (fun _ => rfl) (fun _ => rfl)⟩
def rdN1 : Spec Int := mapS (fun p => p.2) (seqS nopS rdNum)
def rdT1 : Spec (List UInt8) := mapS (fun p => p.2) (seqS nopS rdText)
theorem rnumber_ok : Rds rv 70 [] [iv 0] rdN1 (fun n => [iv n]) := by
  rintro h rid nrid tid cs off st hq hn1 hn2 ht hz hl
  have rp : RdP h rid nrid tid cs off st 0 nopS (fun _ => []) h := RdP.start off hq ht
  unfold rv
  refine acalls_of_awp Tryz.func70 rfl (by simp only [List.length_cons, List.length_nil]; decide) ?_
  simp only [params_cons, params_nil]
  repeat (first | ((first | refine zd ?_ | refine zx ?_ | refine zk ?_ | refine zl ?_ | refine zr ?_); refine zq ?_) | refine zs ?_ | refine zh (by simp -implicitDefEqProofs (disch := (first | omega | (simp; done) | fail)) [if_pos, if_neg, wrap_i64, tmod_pos, tdiv_pos, Int.toNat_add, rv]; rfl) ?_ | refine zb ?_ | refine zo ?_ | refine zt ?_ | refine zf ?_)
  obtain ⟨new, rq, hnl, r2, r3⟩ := rp.cut
  have hz' := RdP.z (m := 1) hz hnl (by simp) hl
  have hl' : off + 0 + 1 ≤ (V.over cs off new).length := by simp only [List.length_cons, List.length_nil, List.length_append, Nat.zero_add] at hnl hl; rw [over_len (by omega)]; omega
  have hbf : off + 0 ≤ cs.length := (by simp only [List.length_cons, List.length_nil, List.length_append, Nat.zero_add] at hl; omega)
  refine goes_callS (callable_of Tryz.func137) (by simp -implicitDefEqProofs (disch := (first | omega | (simp; done) | fail)) [if_pos, if_neg, wrap_i64, tmod_pos, tdiv_pos, Int.toNat_add, rv, pm, rv] <;> first | rfl | omega) _ ((mrnum_ok) _ rid nrid tid _ (off + 0) _ r3 hn1 hn2 r2 hz' hl') ?_
  rintro _ h' ⟨rfl, rp'⟩
  replace rp := RdP.go hbf rq rp'
  clear rq hnl r2 r3 rp' hz' hl' hbf
  refine goes_eq (by simp -implicitDefEqProofs (disch := (first | omega | (simp; done) | fail)) [if_pos, if_neg, wrap_i64, tmod_pos, tdiv_pos, Int.toNat_add, rv]; rfl) ?_
  (refine goes_done ?_; (try simp only [vq, if_true, reduceIte, Nat.reduceEqDiff, reduceCtorEq]))
  have hkl := rp.len
  first | refine body_all (.inr rfl) (by simp -implicitDefEqProofs; rfl) (by simp -implicitDefEqProofs; rfl) (by first | (simp; done) | (simp; omega) | omega) ?_ | refine body_all (.inl rfl) (by simp -implicitDefEqProofs; rfl) (by simp -implicitDefEqProofs; rfl) (by first | (simp; done) | (simp; omega) | omega) ?_
  exact ⟨rfl, rp.as rdN1 (fun n => [iv n]) (fun p => p.2) (fun _ => rfl) (fun _ => rfl)⟩
theorem rtxt_ok : Rds rv 97 [] [.str []] rdT1 (fun s => [.str s]) := by
  rintro h rid nrid tid cs off st hq hn1 hn2 ht hz hl
  have rp : RdP h rid nrid tid cs off st 0 nopS (fun _ => []) h := RdP.start off hq ht
  unfold rv
  refine acalls_of_awp Tryz.func97 rfl (by simp only [List.length_cons, List.length_nil]; decide) ?_
  simp only [params_cons, params_nil]
  repeat (first | ((first | refine zd ?_ | refine zx ?_ | refine zk ?_ | refine zl ?_ | refine zr ?_); refine zq ?_) | refine zs ?_ | refine zh (by simp -implicitDefEqProofs (disch := (first | omega | (simp; done) | fail)) [if_pos, if_neg, wrap_i64, tmod_pos, tdiv_pos, Int.toNat_add, rv]; rfl) ?_ | refine zb ?_ | refine zo ?_ | refine zt ?_ | refine zf ?_)
  obtain ⟨new, rq, hnl, r2, r3⟩ := rp.cut
  have hz' := RdP.z (m := 1) hz hnl (by simp) hl
  have hl' : off + 0 + 1 ≤ (V.over cs off new).length := by simp only [List.length_cons, List.length_nil, List.length_append, Nat.zero_add] at hnl hl; rw [over_len (by omega)]; omega
  have hbf : off + 0 ≤ cs.length := (by simp only [List.length_cons, List.length_nil, List.length_append, Nat.zero_add] at hl; omega)
  refine goes_callS (callable_of Tryz.func139) (by simp -implicitDefEqProofs (disch := (first | omega | (simp; done) | fail)) [if_pos, if_neg, wrap_i64, tmod_pos, tdiv_pos, Int.toNat_add, rv, pm, rv] <;> first | rfl | omega) _ ((mrtext_ok) _ rid nrid tid _ (off + 0) _ r3 hn1 hn2 r2 hz' hl') ?_
  rintro _ h' ⟨rfl, rp'⟩
  replace rp := RdP.go hbf rq rp'
  clear rq hnl r2 r3 rp' hz' hl' hbf
  refine goes_eq (by simp -implicitDefEqProofs (disch := (first | omega | (simp; done) | fail)) [if_pos, if_neg, wrap_i64, tmod_pos, tdiv_pos, Int.toNat_add, rv]; rfl) ?_
  (refine goes_done ?_; (try simp only [vq, if_true, reduceIte, Nat.reduceEqDiff, reduceCtorEq]))
  have hkl := rp.len
  first | refine body_all (.inr rfl) (by simp -implicitDefEqProofs; rfl) (by simp -implicitDefEqProofs; rfl) (by first | (simp; done) | (simp; omega) | omega) ?_ | refine body_all (.inl rfl) (by simp -implicitDefEqProofs; rfl) (by simp -implicitDefEqProofs; rfl) (by first | (simp; done) | (simp; omega) | omega) ?_
  exact ⟨rfl, rp.as rdT1 (fun s => [.str s]) (fun p => p.2) (fun _ => rfl) (fun _ => rfl)⟩
end Go.Proofs.YtdncoobpdllpkaaGreat.D
