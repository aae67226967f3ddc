import Derived.Test.YtdncoobpdllpkaaGreatDB
import Derived.Test.YtdncoobpdllpkaaGreatV31
/- Bytes as messages: lists are read. -/
set_option linter.unusedVariables false
set_option linter.unusedSimpArgs false
set_option maxRecDepth 20000
namespace Go.Proofs.YtdncoobpdllpkaaGreat.D
open Go Go.Proofs.YtdncoobpdllpkaaGreat.V Go.Proofs.YtdncoobpdllpkaaGreat.N
theorem mstop_ok (h : AHeap) (rid nrid : Nat) (st : St) (hq : Rq h rid nrid st) :
    ACalls Tryz.prog 86 [.ptr rid 0] h fun r h' => r = .tuple [] ∧ Rq h' rid nrid (runT rdNum st) ∧ Kept h (Fr rid nrid) h' (Fr rid nrid) := by
  obtain ⟨l, e1, e2, hr, h1, hne, hs, hl⟩ := hq
  refine acalls_of_awp Tryz.func86 rfl (by simp only [List.length_cons, List.length_nil]; decide) ?_
  simp only [params_cons, params_nil]
  cases st with
  | error e =>
    obtain ⟨he, hee⟩ := hs
    by_cases h2 : e2 = 0
    · subst h2
      rw [if_pos rfl] at hee
      subst hee
      repeat (first | ((first | refine zd ?_ | refine zx ?_ | refine zk ?_ | refine zl ?_ | refine zr ?_); refine zq ?_) | refine zs ?_ | refine zh (by simp -implicitDefEqProofs (disch := (first | omega | (simp; done) | fail)) [if_pos, if_neg, wrap_i64, tmod_pos, tdiv_pos, Int.toNat_add, h1]; rfl) ?_ | refine zb ?_ | refine zo ?_ | refine zt ?_ | refine zf ?_)
      refine goes_callS (callable_of Tryz.func62) (by simp -implicitDefEqProofs (disch := (first | omega | (simp; done) | fail)) [if_pos, if_neg, wrap_i64, tmod_pos, tdiv_pos, Int.toNat_add] <;> first | rfl | omega) _ (nread_done _ nrid l e1 he hr) ?_
      rintro _ h2 ⟨rfl, rfl⟩
      refine ze ?_
      repeat (first | ((first | refine zd ?_ | refine zx ?_ | refine zk ?_ | refine zl ?_ | refine zr ?_); refine zq ?_) | refine zs ?_ | refine zg ?_ | refine zb ?_ | refine zo ?_ | refine zt ?_ | refine zf ?_)
      first | refine body_all (.inr rfl) (by simp -implicitDefEqProofs; rfl) (by simp -implicitDefEqProofs; rfl) (by first | (simp; done) | (simp; omega) | omega) ?_ | refine body_all (.inl rfl) (by simp -implicitDefEqProofs; rfl) (by simp -implicitDefEqProofs; rfl) (by first | (simp; done) | (simp; omega) | omega) ?_
      exact ⟨rfl, ⟨l, e1, 0, hr, h1, hne, ⟨he, by simp⟩, hl⟩, Kept.refl _ _⟩
    · have h3 : ((e2 : Int) == 0) = false := by simp; omega
      repeat (first | ((first | refine zd ?_ | refine zx ?_ | refine zk ?_ | refine zl ?_ | refine zr ?_); refine zq ?_) | refine zs ?_ | refine zh (by simp -implicitDefEqProofs (disch := (first | omega | (simp; done) | fail)) [if_pos, if_neg, wrap_i64, tmod_pos, tdiv_pos, Int.toNat_add, h1, h3]; rfl) ?_ | refine zb ?_ | refine zo ?_ | refine zt ?_ | refine zf ?_)
      first | refine body_all (.inr rfl) (by simp -implicitDefEqProofs; rfl) (by simp -implicitDefEqProofs; rfl) (by first | (simp; done) | (simp; omega) | omega) ?_ | refine body_all (.inl rfl) (by simp -implicitDefEqProofs; rfl) (by simp -implicitDefEqProofs; rfl) (by first | (simp; done) | (simp; omega) | omega) ?_
      exact ⟨rfl, ⟨l, e1, e2, hr, h1, hne, ⟨he, hee⟩, hl⟩, Kept.refl _ _⟩
  | ok l0 =>
    obtain ⟨rfl, rfl, rfl⟩ := hs
    have hnl : nrid < h.length := by obtain ⟨t, hr⟩ := hr; exact (List.getElem?_eq_some_iff.1 hr).1
    have hk := fun o => Kept.one (h := h) (F := Fr rid nrid) (i := nrid) (.inr rfl) o
    have hq' := fun (st' : St) l' t' e' (hs : StIs st' l' e' 0) (hl : l'.length ≤ 100000000) => Rq.set (l := []) (t' := t') (l' := l') h1 hne hnl hs hl
    clear hnl
    repeat (first | ((first | refine zd ?_ | refine zx ?_ | refine zk ?_ | refine zl ?_ | refine zr ?_); refine zq ?_) | refine zs ?_ | refine zh (by simp -implicitDefEqProofs (disch := (first | omega | (simp; done) | fail)) [if_pos, if_neg, wrap_i64, tmod_pos, tdiv_pos, Int.toNat_add, h1]; rfl) ?_ | refine zb ?_ | refine zo ?_ | refine zt ?_ | refine zf ?_)
    refine goes_callS (callable_of Tryz.func62) (by simp -implicitDefEqProofs (disch := (first | omega | (simp; done) | fail)) [if_pos, if_neg, wrap_i64, tmod_pos, tdiv_pos, Int.toNat_add] <;> first | rfl | omega) _ (nread_ok _ nrid l0 hl hr) ?_
    rintro _ h2 ⟨rfl, l', t', e', rfl, hs, hll⟩
    refine ze ?_
    repeat (first | ((first | refine zd ?_ | refine zx ?_ | refine zk ?_ | refine zl ?_ | refine zr ?_); refine zq ?_) | refine zs ?_ | refine zg ?_ | refine zb ?_ | refine zo ?_ | refine zt ?_ | refine zf ?_)
    first | refine body_all (.inr rfl) (by simp -implicitDefEqProofs; rfl) (by simp -implicitDefEqProofs; rfl) (by first | (simp; done) | (simp; omega) | omega) ?_ | refine body_all (.inl rfl) (by simp -implicitDefEqProofs; rfl) (by simp -implicitDefEqProofs; rfl) (by first | (simp; done) | (simp; omega) | omega) ?_
    exact ⟨rfl, hq' _ l' t' e' hs (Nat.le_trans hll hl), hk _⟩
def rdGate {α : Type} (f : Spec α) : Spec α := fun l => if l = [] then .error 10 else f l
def rdN {α : Type} (f : Spec α) : Nat → Spec (List α)
  | 0 => fun l => .ok ([], l)
  | n + 1 => mapS (fun p => p.1 ++ [p.2]) (seqS (rdN f n) (rdGate f))
def rdList {α : Type} (f : Spec α) : Spec (List α) := fun l =>
  match rdSize l with
  | .error e => .error e
  | .ok p => rdN f p.1 p.2
theorem runT_gate {α : Type} (f : Spec α) {st : St} (h : st ≠ .ok []) : runT (rdGate f) st = runT f st := by
  cases st with
  | error e => rfl
  | ok l =>
    have : l ≠ [] := fun e => h (by rw [e])
    simp only [runT, rdGate, if_neg this]
theorem runT_N {α : Type} (f : Spec α) (n : Nat) (st : St) : runT (rdN f (n + 1)) st = runT (rdGate f) (runT (rdN f n) st) := by
  rw [rdN, runT_map, runT_seq]
theorem runT_N_err {α : Type} (f : Spec α) {e : Nat} {st : St} {i : Nat} (h : runT (rdN f i) st = .error e) : ∀ n, i ≤ n → runT (rdN f n) st = .error e
  | 0, hi => by obtain rfl : i = 0 := by omega
                exact h
  | n + 1, hi => by
    by_cases hn : i ≤ n
    · rw [runT_N, runT_N_err f h n hn]; rfl
    · obtain rfl : i = n + 1 := by omega
      exact h
theorem runT_list {α : Type} (f : Spec α) (st : St) : runT (rdList f) st = runT (rdN f (runV rdSize 0 st)) (runT rdSize st) := by
  cases st with
  | error e => rfl
  | ok l =>
    simp only [runT, rdList, runV]
    cases rdSize l <;> rfl
theorem list_of {α : Type} {f : Spec α} {st : St} {l : List UInt8} {p : List α × List UInt8} (h1 : st = .ok l) (h2 : rdList f l = .ok p) : ∃ l', runT rdSize st = .ok l' ∧ rdN f (runV rdSize 0 st) l' = .ok p := by
  subst h1
  unfold rdList at h2
  cases hs : rdSize l with
  | error e => rw [hs] at h2; cases h2
  | ok q =>
    rw [hs] at h2
    exact ⟨q.2, by simp [runT, hs], by simpa [runV, hs] using h2⟩
theorem size_le (st : St) : runV rdSize 0 st ≤ 1024 := by
  cases st with
  | error e => simp [runV]
  | ok l =>
    unfold runV rdSize
    by_cases he : (numB l).2.2 = 0
    · by_cases h2 : 1024 < (numB l).1 <;> simp [he, h2]; omega
    · simp [he]
/-- How a list's reading stands. -/
def LSt {α : Type} (h : AHeap) (rid nrid tid : Nat) (cs : List AV) (off : Nat) (st : St) (f : Spec α) (el : α → AV) (k i : Nat) (x : AV) (c : Nat) (cs0 : List AV) (c1 : List AV) (h' : AHeap) : Prop :=
  RowAt h' k x i c cs0 ∧ (∀ id o n c, x = .arr id o n c → h.length ≤ id) ∧ h'[tid]? = some (.cells c1) ∧ c1 = V.over cs off [x] ∧ Rq h' rid nrid (runT (rdN f i) st) ∧
    (∀ l p, st = .ok l → rdN f i l = .ok p → p.1.length = i ∧ cs0.take (i * k) = (p.1.map el).flatMap AV.cells) ∧ Kept h (Fr3 rid nrid tid) h' (Fr3 rid nrid tid)
def LMid {α : Type} (h : AHeap) (rid nrid tid : Nat) (cs : List AV) (off : Nat) (st : St) (f : Spec α) (el : α → AV) (k i : Nat) (z : List AV) (aid c : Nat) (cs1 : List AV) (c1 : List AV) (h' : AHeap) : Prop :=
  h'[aid]? = some (.cells cs1) ∧ cs1.length = c * k ∧ i + 1 ≤ c ∧ (cs1.drop (i * k)).take k = z ∧ h.length ≤ aid ∧ h'[tid]? = some (.cells c1) ∧ c1 = V.over cs off [.arr aid 0 (i + 1) c] ∧ Rq h' rid nrid (runT (rdN f i) st) ∧
    (∀ l p, st = .ok l → rdN f i l = .ok p → p.1.length = i ∧ cs1.take (i * k) = (p.1.map el).flatMap AV.cells) ∧ Kept h (Fr3 rid nrid tid) h' (Fr3 rid nrid tid)
section
variable {α : Type} {h h1 h' : AHeap} {rid nrid tid : Nat} {cs : List AV} {off : Nat} {st : St} {f : Spec α} {el : α → AV} {k i : Nat} {x : AV} {c : Nat} {cs0 cs1 c1 : List AV} {z : List AV} {aid : Nat}
theorem over_self {a : AV} (hc : cs[off]? = some a) : V.over cs off [a] = cs := by
  obtain ⟨h1, h2⟩ := List.getElem?_eq_some_iff.1 hc
  unfold V.over
  rw [← h2, List.append_assoc, List.length_singleton, List.singleton_append, ← List.drop_eq_getElem_cons h1, List.take_append_drop]
theorem over_get {a : AV} (hl : off < cs.length) : (V.over cs off [a])[off]? = some a := by
  have e : (cs.take off).length = off := by simp; omega
  unfold V.over
  rw [List.append_assoc, List.getElem?_append_right (by omega), e]
  simp
theorem over_again {a b : AV} (hl : off < cs.length) : V.over (V.over cs off [a]) off [b] = V.over cs off [b] := by
  have e : (cs.take off).length = off := by simp; omega
  have h1 : (V.over cs off [a]).take off = cs.take off := by unfold V.over; rw [List.append_assoc, List.take_left' e]
  have h2 : (V.over cs off [a]).drop (off + 1) = cs.drop (off + 1) := over_drop (vs := [a]) (by simp; omega)
  have h3 : V.over (V.over cs off [a]) off [b] = (V.over cs off [a]).take off ++ [b] ++ (V.over cs off [a]).drop (off + 1) := rfl
  rw [h3, h1, h2]; rfl
theorem over_put {a b : AV} (hl : off < cs.length) (h : c1 = V.over cs off [a]) : c1.take off ++ b :: c1.drop (off + 1) = V.over cs off [b] := by
  subst h
  rw [← over_again (a := a) (b := b) hl]
  have h3 : V.over (V.over cs off [a]) off [b] = (V.over cs off [a]).take off ++ [b] ++ (V.over cs off [a]).drop (off + 1) := rfl
  rw [h3]; simp
theorem RowAt.to {h h2 : AHeap} {n : Nat} (r : RowAt h k x n c cs0) (hh : ∀ id o n c, x = .arr id o n c → h2[id]? = h[id]?) : RowAt h2 k x n c cs0 := by
  cases r with
  | nil => exact .nil
  | arr id n c _ ho hc hn h0 => exact .arr _ _ _ _ (by rw [hh _ _ _ _ rfl]; exact ho) hc hn h0
theorem Rq.to_eq {st2 : St} (q : Rq h rid nrid st) (e : st2 = st) : Rq h rid nrid st2 := e ▸ q
theorem LSt.start (k1 : Kept h (Fr rid nrid) h' (Fr rid nrid)) (ht : h'[tid]? = some (.cells cs)) (hc : cs[off]? = some (.list [] .full)) (hq : Rq h' rid nrid st) : LSt h rid nrid tid cs off st f el k 0 (.list [] .full) 0 [] cs h' :=
  ⟨.nil, fun _ _ _ _ e => (by cases e), ht, (over_self hc).symm, Rq.to_eq hq (by cases st <;> rfl), fun l p h1 h2 => (by injection h2 with h2; subst h2; simp), Kept.fr k1⟩
theorem row_app {n : Nat} (r : RowAt h k x n c cs0) (y : AHeap) : RowAt (h ++ y) k x n c cs0 := by
  cases r with
  | nil => exact .nil
  | arr id n c _ ho hc hn h0 => exact .arr _ _ _ _ (by rw [List.getElem?_append_left (List.getElem?_eq_some_iff.1 ho).1]; exact ho) hc hn h0
theorem row_clen {n : Nat} (r : RowAt h k x n c cs0) : cs0.length = c * k ∧ n ≤ c := by
  cases r with
  | nil => simp
  | arr id n c _ ho hc hn h0 => exact ⟨hc, hn⟩
theorem Rq.ids (q : Rq h rid nrid st) : rid < h.length ∧ nrid < h.length := by
  obtain ⟨l, e1, e2, ⟨t, r1⟩, r2, r3, r4, r5⟩ := q
  exact ⟨(List.getElem?_eq_some_iff.1 r2).1, (List.getElem?_eq_some_iff.1 r1).1⟩
theorem LSt.stop {h2 : AHeap} (L : LSt h rid nrid tid cs off (runT rdSize st) f el k i x c cs0 c1 h') (hi : i < runV rdSize 0 st) (hst : ∀ l, runT (rdN f i) (runT rdSize st) = .ok l → l = []) (hn1 : tid ≠ rid) (hn2 : tid ≠ nrid)
    (hq : Rq h2 rid nrid (runT rdNum (runT (rdN f i) (runT rdSize st)))) (k2 : Kept h' (Fr rid nrid) h2 (Fr rid nrid)) : RdP h rid nrid tid cs off st 1 (rdList f) (fun xs => [.list (xs.map el) .no]) h2 := by
  obtain ⟨l1, l2, l3, l4, l5, l6, l7⟩ := L
  have hs1 : ∃ e, runT rdNum (runT (rdN f i) (runT rdSize st)) = .error e ∧ runT (rdN f (i + 1)) (runT rdSize st) = .error e := by
    rw [runT_N]
    cases hs : runT (rdN f i) (runT rdSize st) with
    | error e => exact ⟨e, rfl, rfl⟩
    | ok l =>
      obtain rfl := hst l hs
      exact ⟨10, rfl, rfl⟩
  obtain ⟨e, he1, he2⟩ := hs1
  have he3 := runT_N_err f he2 (runV rdSize 0 st) hi
  refine ⟨[x], rfl, by rw [← l4]; exact Rq.tid k2 l3 hn1 hn2, by rw [runT_list, he3, ← he1]; exact hq, fun l p h1 h2 => ?_, l7.trans (Kept.fr k2)⟩
  obtain ⟨l', h3, h4⟩ := list_of h1 h2
  rw [h3] at he3
  simp [runT, h4] at he3
theorem Rq.grow {o : AObj} {y : AHeap} (q : Rq h rid nrid st) : Rq (h ++ y) rid nrid st := q.app y
theorem LSt.room {id : Nat} (L : LSt h rid nrid tid cs off st f el k i (.arr id 0 i c) c cs0 c1 h1) (hic : i < c) (ht0 : tid < h.length) (hr : rid < h.length ∧ nrid < h.length) (hzl : z.length = k) (hoff : off < cs.length) (hn1 : tid ≠ rid) (hn2 : tid ≠ nrid) (y : AHeap) :
    LMid h rid nrid tid cs off st f el k i z id c (V.over cs0 (i * k) z) (c1.take off ++ .arr id 0 (i + 1) c :: c1.drop (off + 1)) (((h1 ++ y).set id (.cells (V.over cs0 (i * k) z))).set tid (.cells (c1.take off ++ .arr id 0 (i + 1) c :: c1.drop (off + 1)))) := by
  obtain ⟨l1, l2, l3, l4, l5, l6, l7⟩ := L
  have hid := l2 id 0 i c rfl
  obtain ⟨hcl, -⟩ := row_clen l1
  have hil : id < h1.length := by
    cases l1 with
    | arr _ _ _ _ ho _ _ _ => exact (List.getElem?_eq_some_iff.1 ho).1
  have hmul : i * k + k ≤ c * k := by
    have : (i + 1) * k ≤ c * k := Nat.mul_le_mul_right k hic
    rwa [Nat.add_mul, Nat.one_mul] at this
  have htl := (List.getElem?_eq_some_iff.1 l3).1
  have e : (cs0.take (i * k)).length = i * k := by simp; omega
  refine ⟨?_, by rw [over_len (by omega)]; exact hcl, hic, ?_, hid, List.getElem?_set_self (by simp; omega), ?_, ?_, fun l p h1 h2 => ?_, ?_⟩
  · rw [List.getElem?_set_ne (by omega), List.getElem?_set_self (by simp; omega)]
  · unfold V.over
    rw [List.append_assoc, List.drop_left' e, ← hzl, List.take_left]
  · exact over_put hoff l4
  · exact ((l5.app y).put (by omega) (by omega)).put hn1 hn2
  · obtain ⟨q1, q2⟩ := l6 l p h1 h2
    refine ⟨q1, ?_⟩
    rw [← q2]
    unfold V.over
    rw [List.append_assoc, List.take_left' e]
  · refine ⟨by have := l7.1; simp; omega, fun j hj hn => ?_, fun j hj => .inl hj⟩
    rw [List.getElem?_set_ne (fun e => hn (.inr (.inr e.symm))), List.getElem?_set_ne (by omega), List.getElem?_append_left (by have := l7.1; omega)]
    exact l7.2.1 j hj hn
theorem LSt.grow {u : List AV} {c' : Nat} (L : LSt h rid nrid tid cs off st f el k i x c cs0 c1 h1) (hic : i = c) (ht0 : tid < h.length) (hr : rid < h.length ∧ nrid < h.length) (hzl : z.length = k) (hoff : off < cs.length) (hn1 : tid ≠ rid) (hn2 : tid ≠ nrid) (y : AHeap)
    (hc' : i + 1 ≤ c') (hu : u.length = (c' - (i + 1)) * k) :
    LMid h rid nrid tid cs off st f el k i z (h1 ++ y).length c' (cs0 ++ z ++ u) (c1.take off ++ .arr (h1 ++ y).length 0 (i + 1) c' :: c1.drop (off + 1)) (((h1 ++ y) ++ [AObj.cells (cs0 ++ z ++ u)]).set tid (AObj.cells (c1.take off ++ AV.arr (h1 ++ y).length 0 (i + 1) c' :: c1.drop (off + 1)))) := by
  obtain ⟨l1, l2, l3, l4, l5, l6, l7⟩ := L
  obtain ⟨hcl, -⟩ := row_clen l1
  have htl := (List.getElem?_eq_some_iff.1 l3).1
  have hle := l7.1
  have hi2 : cs0.length = i * k := by rw [hcl, hic]
  have hcc : c' * k = i * k + k + (c' - (i + 1)) * k := by
    have : c' = i + 1 + (c' - (i + 1)) := by omega
    conv => lhs; rw [this]
    rw [Nat.add_mul, Nat.add_mul, Nat.one_mul]
  refine ⟨?_, by simp [hzl, hu]; omega, hc', ?_, by simp; omega, List.getElem?_set_self (by simp; omega), ?_, ?_, fun l p h1 h2 => ?_, ?_⟩
  · rw [List.getElem?_set_ne (by simp; omega)]; simp
  · rw [List.append_assoc, List.drop_left' hi2, ← hzl, List.take_left]
  · exact over_put hoff l4
  · exact (((l5.app y).app _).put hn1 hn2)
  · obtain ⟨q1, q2⟩ := l6 l p h1 h2
    refine ⟨q1, ?_⟩
    rw [← q2, List.append_assoc, List.take_left' hi2, List.take_of_length_le (by omega)]
  · refine ⟨by simp; omega, fun j hj hn => ?_, fun j hj => .inl hj⟩
    rw [List.getElem?_set_ne (fun e => hn (.inr (.inr e.symm))), List.append_assoc, List.getElem?_append_left (by omega)]
    exact l7.2.1 j hj hn
theorem LMid.step {cf : α → List AV} (M : LMid h rid nrid tid cs off st f el k i z aid c cs1 c1 h1) (hst : runT (rdN f i) st ≠ .ok []) (hel : ∀ a, (el a).cells = cf a) (ht0 : tid < h.length) (hn1 : tid ≠ rid) (hn2 : tid ≠ nrid)
    (r : RdP h1 rid nrid aid cs1 (i * k) (runT (rdN f i) st) k f cf h') : ∃ cs2, LSt h rid nrid tid cs off st f el k (i + 1) (.arr aid 0 (i + 1) c) c cs2 c1 h' := by
  obtain ⟨m1, m2, m3, m4, m5, m6, m7, m8, m9, m10⟩ := M
  obtain ⟨new, r1, r2, r3, r4, r5⟩ := r
  have hmul : i * k + k ≤ c * k := by
    have : (i + 1) * k ≤ c * k := Nat.mul_le_mul_right k m3
    rwa [Nat.add_mul, Nat.one_mul] at this
  have hmul2 : (i + 1) * k = i * k + k := by rw [Nat.add_mul, Nat.one_mul]
  have e : (cs1.take (i * k)).length = i * k := by simp; omega
  have htl := (List.getElem?_eq_some_iff.1 m6).1
  refine ⟨V.over cs1 (i * k) new, .arr aid (i + 1) c _ r2 (by rw [over_len (by omega)]; exact m2) m3 (by omega), fun id o n c e => by injection e with e1; omega, ?_, m7, by rw [runT_N, runT_gate f hst]; exact r3, fun l p h1 h2 => ?_, ?_⟩
  · rw [r5.2.1 tid htl (fun e => e.elim hn1 fun e => e.elim hn2 fun e => by omega)]; exact m6
  · subst h1
    rw [rdN] at h2
    unfold mapS seqS at h2
    cases hs : rdN f i l with
    | error e => rw [hs] at h2; cases h2
    | ok q =>
      rw [hs] at h2
      simp only at h2
      obtain ⟨q1, q2⟩ := m9 l q rfl hs
      have hsi : runT (rdN f i) (.ok l) = .ok q.2 := by simp [runT, hs]
      have hne : q.2 ≠ [] := fun e => hst (by rw [hsi, e])
      cases hg : f q.2 with
      | error e => simp [rdGate, hne, hg] at h2
      | ok t =>
        simp [rdGate, hne, hg] at h2
        subst h2
        have hnew := r4 q.2 t hsi hg
        refine ⟨by simp [q1], ?_⟩
        rw [hmul2]
        unfold V.over
        have e2 : (cs1.take (i * k) ++ new).length = i * k + k := by simp; omega
        rw [List.take_left' e2, q2, hnew]
        simp [hel]
  · exact ⟨Nat.le_trans m10.1 r5.1, fun j hj hn => by
      rw [r5.2.1 j (by have := m10.1; omega) (fun e => e.elim (fun e => hn (.inl e)) fun e => e.elim (fun e => hn (.inr (.inl e))) fun e => by omega)]
      exact m10.2.1 j hj hn, fun j hj => .inl hj⟩
theorem LSt.fin {h2 : AHeap} {l : List UInt8} {p : List α × List UInt8} (L : LSt h rid nrid tid cs off (runT rdSize st) f el k i x c cs0 c1 h') (hi : i = runV rdSize 0 st) (e1 : runT rdSize st = .ok l) (e2 : rdN f i l = .ok p) (hoff : off < cs.length)
    (hq : Rq h2 rid nrid (runT (rdN f i) (runT rdSize st))) (ht : h2[tid]? = some (.cells (c1.set off (.list (p.1.map el) .no)))) (hk : Kept h (Fr3 rid nrid tid) h2 (Fr3 rid nrid tid)) : RdP h rid nrid tid cs off st 1 (rdList f) (fun xs => [.list (xs.map el) .no]) h2 := by
  obtain ⟨l1, l2, l3, l4, l5, l6, l7⟩ := L
  refine ⟨[.list (p.1.map el) .no], rfl, ?_, by rw [runT_list, ← hi]; exact hq, fun l' p' h1 h2 => ?_, hk⟩
  · rw [ht, ← over_put (b := .list (p.1.map el) .no) hoff l4]
    have : off < c1.length := by rw [l4, over_len (by simp only [List.length_singleton]; omega)]; exact hoff
    rw [List.set_eq_take_append_cons_drop, if_pos this]
  · obtain ⟨l2, h3, h4⟩ := list_of h1 h2
    rw [h3] at e1
    injection e1 with e1
    subst e1
    rw [← hi, e2] at h4
    injection h4 with h4
    rw [h4]
theorem LSt.bad {e : Nat} (L : LSt h rid nrid tid cs off (runT rdSize st) f el k i x c cs0 c1 h') (hi : i = runV rdSize 0 st) (he : runT (rdN f i) (runT rdSize st) = .error e) : RdP h rid nrid tid cs off st 1 (rdList f) (fun xs => [.list (xs.map el) .no]) h' := by
  obtain ⟨l1, l2, l3, l4, l5, l6, l7⟩ := L
  refine ⟨[x], rfl, by rw [← l4]; exact l3, by rw [runT_list, ← hi]; exact l5, fun l' p' h1 h2 => ?_, l7⟩
  obtain ⟨l2, h3, h4⟩ := list_of h1 h2
  rw [h3, hi] at he
  simp [runT, h4] at he
theorem runT_ok {β : Type} {g : Spec β} {s : St} {l : List UInt8} (h : runT g s = .ok l) : ∃ l' p, s = .ok l' ∧ g l' = .ok p := by
  cases s with
  | error e => cases h
  | ok l' =>
    unfold runT at h
    cases hg : g l' with
    | error e => simp [hg] at h
    | ok p => exact ⟨l', p, rfl, hg⟩
end
theorem awp_soften {P : Program} {E : Env P} {tid off m : Nat} {ts : List AV} {code : Code} {Q : Post} {s : Slots} {h : AHeap} (ht : h[tid]? = some (.cells ts)) (htv : ts[off]? = some (.list [] .full))
    (q : AWP E code Q ⟨m, s, h.set tid (.cells (ts.set off (.list [] .no)))⟩) : AWP E code Q ⟨m, s, h⟩ := fun m' w0 g w a hC r S => by
  have S2 := S.recell (tid := tid) (ts := ts) (ts' := ts.set off (.list [] .no)) ht (by simp) fun i x y v hi hy hv0 => by
    rw [List.getElem?_set] at hy
    split at hy
    · rename_i e
      subst e
      rw [htv] at hi
      injection hi with hi
      subst hi
      split at hy
      · injection hy with hy
        subst hy
        simpa using hv0.strip
      · cases hy
    · rw [hi] at hy
      injection hy with hy
      subst hy
      exact hv0
  exact wpIn_mono (q m' w0 g w a hC (r.heap _) S2) fun e a w ⟨s2, g2, l2, r2, S2, q⟩ => ⟨s2, g2, l2, r2, S2, q⟩
theorem awp_mid {P : Program} {E : Env P} {x : Code} {A : ASt → Prop} {Q : Post} {s : ASt} (J : ASt → Prop) (h2 : ∀ s, J s → A s) (h1 : AWP E x (Post.then J Q) s) : AWP E x (Post.then A Q) s :=
  h1.mono fun e s hq => by
    cases e with
    | normal => exact h2 s hq
    | _ => exact hq
theorem rids_ok : Rds rv 78 [.func (.func 55) [] []] [.list [] .full] (rdList rdId) (fun xs => [.list (xs.map Iid.av) .no]) := by
      rintro h rid nrid tid cs off st hq hn1 hn2 ht hz hl
      have hc : cs[off]? = some (.list [] .full) := by
        have := congrArg (fun l => l[0]?) hz
        simpa using this
      unfold rv
      refine acalls_of_awp Tryz.func78 rfl (by simp only [List.length_cons, List.length_nil]; decide) ?_
      simp only [params_cons, params_nil]
      refine awp_seq ?_
      refine awp_draw (.q 0 (.q 1 (.q 2 (.q 5 (.q 6 (.q 7 (.a 3 (.q 4 (.a 8 (.q 9 (.done))))))))))) (by kernel_rfl) (by kernel_rfl) (tree_start (goesT_eq (by simp -implicitDefEqProofs (disch := (first | omega | (simp; done) | fail)) [if_pos, if_neg, wrap_i64, tmod_pos, tdiv_pos, Int.toNat_add, rv, ht, hc]; rfl) ?_))
      refine goesT_callS (callable_of Tryz.func138) (by simp -implicitDefEqProofs (disch := (first | omega | (simp; done) | fail)) [if_pos, if_neg, wrap_i64, tmod_pos, tdiv_pos, Int.toNat_add, pm] <;> first | rfl | omega) _ (msz_ok _ rid nrid st _ hq) ?_
      rintro _ h1 ⟨rfl, hq1, k1⟩
      have L0 : LSt h rid nrid tid cs off (runT rdSize st) rdId Iid.av 3 0 (.list [] .full) 0 [] cs h1 := LSt.start k1 (Rq.tid k1 ht hn1 hn2) hc hq1
      have hN := size_le st
      generalize hNN : runV rdSize 0 st = N at hN
      refine zE ?_
      refine goesT_done ?_
      (try simp only [vq, if_true, reduceIte, Nat.reduceEqDiff, reduceCtorEq])
      repeat (first | ((first | refine zd ?_ | refine zx ?_ | refine zk ?_ | refine zl ?_ | refine zr ?_); refine zq ?_) | refine zs ?_ | refine zg ?_ | refine zb ?_ | refine zo ?_ | refine zt ?_ | refine zf ?_)
      refine awp_loop (fun z st' => ∃ (i : Nat) (h' : AHeap) (x : AV) (c : Nat) (cs0 c1 : List AV), z = N - i ∧ i ≤ N ∧ LSt h rid nrid tid cs off (runT rdSize st) rdId Iid.av 3 i x c cs0 c1 h' ∧
        st'.le ⟨Tryz.f78.ntmps, [(0, rv rid), (1, .ptr tid off), (2, .func (.func 55) [] []), (7, .ptr rid 0), (8, .bool true), (25, .int .i64 N), (26, .int .i64 i)], h'⟩) N ?_ ?_
      rotate_left
      · rintro z st' ⟨i, h', x, c, cs0, c1, rfl, hi, L, hle⟩
        refine awp_le hle ?_
        unfold rv
        repeat (first | ((first | refine zd ?_ | refine zx ?_ | refine zk ?_ | refine zl ?_ | refine zr ?_); refine zq ?_) | refine zs ?_ | refine zg ?_ | refine zb ?_ | refine zo ?_ | refine zt ?_ | refine zf ?_)
        refine awp_cond rfl (fun h5 => ?_) (fun h5 => ?_)
        · simp at h5
          have L' := L
          obtain ⟨l1, l2, l3, l4, l5, l6, l7⟩ := L
          have hq0 := l5
          obtain ⟨lb, e1, e2, hr, hcr, hne, hsi, hll⟩ := l5
          by_cases he2 : e2 = 0
          · subst he2
            repeat (first | ((first | refine zd ?_ | refine zx ?_ | refine zk ?_ | refine zl ?_ | refine zr ?_); refine zq ?_) | refine zs ?_ | refine zh (by simp -implicitDefEqProofs (disch := (first | omega | (simp; done) | fail)) [if_pos, if_neg, wrap_i64, tmod_pos, tdiv_pos, Int.toNat_add, hcr]; rfl) ?_ | refine zb ?_ | refine zo ?_ | refine zt ?_ | refine zf ?_)
            refine goes_callS (callable_of Tryz.func85) (by simp -implicitDefEqProofs (disch := (first | omega | (simp; done) | fail)) [if_pos, if_neg, wrap_i64, tmod_pos, tdiv_pos, Int.toNat_add] <;> first | rfl | omega) _ (rleft_ok _ nrid lb e1 hr) ?_
            rintro _ h3 ⟨rfl, rfl⟩
            by_cases hlb : lb = []
            · have hsto : ∀ l, runT (rdN rdId i) (runT rdSize st) = .ok l → l = [] := fun l hl => by rw [hl] at hsi; obtain ⟨-, -, h3⟩ := hsi; rw [h3, hlb]
              subst hlb
              refine ze ?_
              repeat (first | ((first | refine zd ?_ | refine zx ?_ | refine zk ?_ | refine zl ?_ | refine zr ?_); refine zq ?_) | refine zs ?_ | refine zg ?_ | refine zb ?_ | refine zo ?_ | refine zt ?_ | refine zf ?_)
              refine goes_callS (callable_of Tryz.func86) (by simp -implicitDefEqProofs (disch := (first | omega | (simp; done) | fail)) [if_pos, if_neg, wrap_i64, tmod_pos, tdiv_pos, Int.toNat_add] <;> first | rfl | omega) _ (mstop_ok _ rid nrid _ hq0) ?_
              rintro _ h2 ⟨rfl, hq2, k2⟩
              have hkl : h.length ≤ h2.length := Nat.le_trans l7.1 k2.1
              refine ze ?_
              repeat (first | ((first | refine zd ?_ | refine zx ?_ | refine zk ?_ | refine zl ?_ | refine zr ?_); refine zq ?_) | refine zs ?_ | refine zg ?_ | refine zb ?_ | refine zo ?_ | refine zt ?_ | refine zf ?_)
              first | refine body_all (.inr rfl) (by simp -implicitDefEqProofs; rfl) (by simp -implicitDefEqProofs; rfl) (by first | (simp; done) | (simp; omega) | omega) ?_ | refine body_all (.inl rfl) (by simp -implicitDefEqProofs; rfl) (by simp -implicitDefEqProofs; rfl) (by first | (simp; done) | (simp; omega) | omega) ?_
              exact ⟨rfl, LSt.stop L' (by omega) hsto hn1 hn2 hq2 k2⟩
            · have hlb' : ((lb.length : Int) == 0) = false := by simp [hlb]
              have hsto : runT (rdN rdId i) (runT rdSize st) ≠ .ok [] := fun hl => by rw [hl] at hsi; obtain ⟨-, -, h3⟩ := hsi; exact hlb h3.symm
              refine goes_eq (by simp -implicitDefEqProofs (disch := (first | omega | (simp; done) | fail)) [if_pos, if_neg, wrap_i64, tmod_pos, tdiv_pos, Int.toNat_add, hlb', hlb]; rfl) ?_
              repeat (first | ((first | refine zd ?_ | refine zx ?_ | refine zk ?_ | refine zl ?_ | refine zr ?_); refine zq ?_) | refine zs ?_ | refine zg ?_ | refine zb ?_ | refine zo ?_ | refine zt ?_ | refine zf ?_)
              have ids := Rq.ids hq0
              have nr : ¬ rid = h3.length := by omega
              have ntl := (List.getElem?_eq_some_iff.1 l3).1
              have nt : ¬ tid = h3.length := by omega
              have nn : ¬ nrid = h3.length := by omega
              have hg : ∀ y, (h3 ++ y)[tid]? = some (.cells c1) := fun y => by rw [List.getElem?_append_left ntl]; exact l3
              clear ids ntl
              have hth := (List.getElem?_eq_some_iff.1 ht).1
              have hrn := Rq.ids hq
              refine awp_hard (id := h3.length) (by simp -implicitDefEqProofs; rfl) ?_
              simp -implicitDefEqProofs only [Slots.melt, AV.melt, Nat.add_left_cancel_iff, Nat.add_eq_left, Nat.left_eq_add, Nat.reduceEqDiff, reduceIte, Nat.succ_ne_self, Nat.one_ne_zero, Nat.zero_ne_one, List.set_append_right, List.set_append_left, Nat.sub_self, Nat.le_refl, Nat.add_sub_cancel_left, Nat.le_add_right, List.set_cons_zero, List.set_cons_succ, if_neg nr, if_neg nt, if_neg nn]
              have hget : c1[off]? = some x := by rw [l4]; exact over_get (by simp at hl; omega)
              refine awp_mid (fun st' => ∃ (aid c' : Nat) (cs1 c1' : List AV) (h4 : AHeap), LMid h rid nrid tid cs off (runT rdSize st) rdId Iid.av 3 i [iv 0, iv 0, iv 0] aid c' cs1 c1' h4 ∧
                st'.le ⟨Tryz.f78.ntmps, [(0, rv rid), (1, .ptr tid off), (2, .func (.func 55) [] []), (7, .ptr rid 0), (8, .bool true), (9, .int .i64 i), (25, .int .i64 N), (26, .int .i64 i)], h4⟩) ?_ ?_
              · rintro st' ⟨aid, c', cs1, c1', h4, M, hle⟩
                refine awp_le hle ?_
                have M' := M
                obtain ⟨m1, m2, m3, m4, m5, m6, m7, m8, m9, m10⟩ := M
                have mget : c1'[off]? = some (.arr aid 0 (i + 1) c') := by rw [m7]; exact over_get (by simp only [List.length_singleton] at hl; exact hl)
                have i1 : i < i + 1 := Nat.lt_succ_self i
                clear hle m7
                unfold rv
                repeat (first | ((first | refine zd ?_ | refine zx ?_ | refine zk ?_ | refine zl ?_ | refine zr ?_); refine zq ?_) | refine zs ?_ | refine zh (by simp -implicitDefEqProofs (disch := (first | omega | (simp; done) | fail)) [if_pos, if_neg, wrap_i64, tmod_pos, tdiv_pos, Int.toNat_add, m6, mget, i1]; rfl) ?_ | refine zb ?_ | refine zo ?_ | refine zt ?_ | refine zf ?_)
                clear mget i1
                have hmul : i * 3 + 3 ≤ c' * 3 := by omega
                refine goes_callS (callable_of Tryz.func55) (by simp -implicitDefEqProofs (disch := (first | omega | (simp; done) | fail)) [if_pos, if_neg, wrap_i64, tmod_pos, tdiv_pos, Int.toNat_add, rv] <;> first | rfl | omega) _ (rid_ok h4 rid nrid aid cs1 (i * 3) _ m8 (by omega) (by omega) m1 m4 (by rw [m2]; exact hmul)) ?_
                rintro _ h5' ⟨rfl, rp⟩
                obtain ⟨cs2, L2⟩ := LMid.step M' hsto (cf := Iid.c) (fun a => by simp [Iid.av]) hth hn1 hn2 rp
                clear rp m8 m6 m1 M'
                have hi1 : i + 1 ≤ N := h5
                have h21 : N - (i + 1) < N - i := by omega
                refine goes_eq (by simp -implicitDefEqProofs (disch := (first | omega | (simp; done) | fail)) [if_pos, if_neg, wrap_i64, tmod_pos, tdiv_pos, Int.toNat_add, rv]; rfl) ?_
                repeat (first | ((first | refine zd ?_ | refine zx ?_ | refine zk ?_ | refine zl ?_ | refine zr ?_); refine zq ?_) | refine zs ?_ | refine zh (by simp -implicitDefEqProofs (disch := (first | omega | (simp; done) | fail)) [if_pos, if_neg, wrap_i64, tmod_pos, tdiv_pos, Int.toNat_add, rv]; rfl) ?_ | refine zb ?_ | refine zo ?_ | refine zt ?_ | refine zf ?_)
                exact ⟨N - (i + 1), h21, i + 1, h5', _, c', cs2, c1', rfl, hi1, L2, st_keep' (by simp [rv]) (by simp [rv])⟩
              refine awp_drawS (graft (.a 6 (.q 7 (.a 8 .done))) (.q 0 (.q 1 (.q 2 (.q 4 (.two 3 5 (.a 5 .done) (.a 3 .done))))))) (by kernel_rfl) (by kernel_rfl) (tree_graft (tree_start (goesT_eq (by simp -implicitDefEqProofs (disch := (first | omega | (simp; done) | fail)) [if_pos, if_neg, l3, hget]; rfl) ?_)))
              refine goesT_two (goesT_eq (by simp -implicitDefEqProofs (disch := (first | omega | (simp; done) | fail)) [if_pos, if_neg, wrap_i64, tmod_pos, tdiv_pos, Int.toNat_add, hg, hget]; rfl) ?_) (goesT_eq (by simp -implicitDefEqProofs (disch := (first | omega | (simp; done) | fail)) [if_pos, if_neg, wrap_i64, tmod_pos, tdiv_pos, Int.toNat_add, hg, hget]; rfl) ?_)
              · refine goesT_done ?_
                (try simp only [vq, if_true, reduceIte, Nat.reduceEqDiff, reduceCtorEq])
                have hoff : off < cs.length := by simp only [List.length_singleton] at hl; exact hl
                have hl1 : off + 1 ≤ c1.length := by rw [l4, over_len (by simp only [List.length_singleton]; exact hoff)]; exact hoff
                refine treeS_append (k := 3) (by_ := 24) (m := i) (c := c) (cs := cs0) (zc := [iv 0, iv 0, iv 0]) (z := (AV.agg [iv 0, iv 0, iv 0])) rfl rfl rfl (by simp; rfl) (by simp) (by simp) (by simp [iv]) rfl (by decide) rfl (by simp) (row_app l1 _) (by simp [iv]) (by omega) (by omega) ?_
                refine ⟨fun hic id hx => ?_, fun hic c' u hc' hu => ?_⟩
                · have hx' : x = .arr id 0 i c := hx
                  clear hx
                  subst hx'
                  have hid := l2 id 0 i c rfl
                  have hs1 : ∀ o, ((h3 ++ [AObj.dead]).set id o)[tid]? = some (.cells c1) := fun o => by rw [List.getElem?_set_ne (by omega)]; exact hg _
                  refine tree_s (tree_start (goesT_eq (by simp -implicitDefEqProofs (disch := (first | omega | (simp; done) | fail)) [hs1, hl1]; rfl) ?_))
                  refine goesT_done ?_
                  (try simp only [vq, if_true, reduceIte, Nat.reduceEqDiff, reduceCtorEq])
                  exact ⟨_, _, _, _, _, LSt.room (z := [iv 0, iv 0, iv 0]) L' hic hth hrn rfl hoff hn1 hn2 [.dead], st_keep' (by simp [rv]) (by simp [rv])⟩
                · refine tree_s (tree_start (goesT_eq (by simp -implicitDefEqProofs (disch := (first | omega | (simp; done) | fail)) [hg, hl1]; rfl) ?_))
                  refine goesT_done ?_
                  (try simp only [vq, if_true, reduceIte, Nat.reduceEqDiff, reduceCtorEq])
                  have M := LSt.grow (z := [iv 0, iv 0, iv 0]) L' hic hth hrn rfl hoff hn1 hn2 [.dead] hc' hu
                  exact ⟨_, _, _, _, _, M, st_keep' (by simp [rv]) (by simp [rv])⟩
              · refine goesT_done ?_
                (try simp only [vq, if_true, reduceIte, Nat.reduceEqDiff, reduceCtorEq])
                have hoff : off < cs.length := by simp only [List.length_singleton] at hl; exact hl
                have hl1 : off + 1 ≤ c1.length := by rw [l4, over_len (by simp only [List.length_singleton]; exact hoff)]; exact hoff
                refine treeS_append (k := 3) (by_ := 24) (m := i) (c := c) (cs := cs0) (zc := [iv 0, iv 0, iv 0]) (z := (AV.agg [iv 0, iv 0, iv 0])) rfl rfl rfl (by simp; rfl) (by simp) (by simp) (by simp [iv]) rfl (by decide) rfl (by simp) (row_app l1 _) (by simp [iv]) (by omega) (by omega) ?_
                refine ⟨fun hic id hx => ?_, fun hic c' u hc' hu => ?_⟩
                · have hx' : x = .arr id 0 i c := hx
                  clear hx
                  subst hx'
                  have hid := l2 id 0 i c rfl
                  have hs1 : ∀ o, ((h3 ++ [AObj.dead]).set id o)[tid]? = some (.cells c1) := fun o => by rw [List.getElem?_set_ne (by omega)]; exact hg _
                  refine tree_s (tree_start (goesT_eq (by simp -implicitDefEqProofs (disch := (first | omega | (simp; done) | fail)) [hs1, hl1]; rfl) ?_))
                  refine goesT_done ?_
                  (try simp only [vq, if_true, reduceIte, Nat.reduceEqDiff, reduceCtorEq])
                  exact ⟨_, _, _, _, _, LSt.room (z := [iv 0, iv 0, iv 0]) L' hic hth hrn rfl hoff hn1 hn2 [.dead], st_keep' (by simp [rv]) (by simp [rv])⟩
                · refine tree_s (tree_start (goesT_eq (by simp -implicitDefEqProofs (disch := (first | omega | (simp; done) | fail)) [hg, hl1]; rfl) ?_))
                  refine goesT_done ?_
                  (try simp only [vq, if_true, reduceIte, Nat.reduceEqDiff, reduceCtorEq])
                  have M := LSt.grow (z := [iv 0, iv 0, iv 0]) L' hic hth hrn rfl hoff hn1 hn2 [.dead] hc' hu
                  exact ⟨_, _, _, _, _, M, st_keep' (by simp [rv]) (by simp [rv])⟩
          · have he3 : ((e2 : Int) != 0) = true := by simp; omega
            have hsto : ∀ l, runT (rdN rdId i) (runT rdSize st) = .ok l → l = [] := fun l hl => by rw [hl] at hsi; obtain ⟨-, h3, -⟩ := hsi; exact absurd h3 he2
            repeat (first | ((first | refine zd ?_ | refine zx ?_ | refine zk ?_ | refine zl ?_ | refine zr ?_); refine zq ?_) | refine zs ?_ | refine zh (by simp -implicitDefEqProofs (disch := (first | omega | (simp; done) | fail)) [if_pos, if_neg, wrap_i64, tmod_pos, tdiv_pos, Int.toNat_add, hcr, he3]; rfl) ?_ | refine zb ?_ | refine zo ?_ | refine zt ?_ | refine zf ?_)
            refine goes_callS (callable_of Tryz.func86) (by simp -implicitDefEqProofs (disch := (first | omega | (simp; done) | fail)) [if_pos, if_neg, wrap_i64, tmod_pos, tdiv_pos, Int.toNat_add] <;> first | rfl | omega) _ (mstop_ok _ rid nrid _ hq0) ?_
            rintro _ h2 ⟨rfl, hq2, k2⟩
            have hkl : h.length ≤ h2.length := Nat.le_trans l7.1 k2.1
            refine ze ?_
            repeat (first | ((first | refine zd ?_ | refine zx ?_ | refine zk ?_ | refine zl ?_ | refine zr ?_); refine zq ?_) | refine zs ?_ | refine zg ?_ | refine zb ?_ | refine zo ?_ | refine zt ?_ | refine zf ?_)
            first | refine body_all (.inr rfl) (by simp -implicitDefEqProofs; rfl) (by simp -implicitDefEqProofs; rfl) (by first | (simp; done) | (simp; omega) | omega) ?_ | refine body_all (.inl rfl) (by simp -implicitDefEqProofs; rfl) (by simp -implicitDefEqProofs; rfl) (by first | (simp; done) | (simp; omega) | omega) ?_
            exact ⟨rfl, LSt.stop L' (by omega) hsto hn1 hn2 hq2 k2⟩
        · simp at h5
          obtain rfl : i = N := by omega
          clear h5 hle hi
          cases hs : runT (rdN rdId i) (runT rdSize st) with
          | error e =>
            have rp := LSt.bad L hNN.symm hs
            have hkl := L.2.2.2.2.2.2.1
            clear L hq
            repeat (first | ((first | refine zd ?_ | refine zx ?_ | refine zk ?_ | refine zl ?_ | refine zr ?_); refine zq ?_) | refine zs ?_ | refine zg ?_ | refine zb ?_ | refine zo ?_ | refine zt ?_ | refine zf ?_)
            first | refine body_all (.inr rfl) (by simp -implicitDefEqProofs; rfl) (by simp -implicitDefEqProofs; rfl) (by first | (simp; done) | (simp; omega) | omega) ?_ | refine body_all (.inl rfl) (by simp -implicitDefEqProofs; rfl) (by simp -implicitDefEqProofs; rfl) (by first | (simp; done) | (simp; omega) | omega) ?_
            exact ⟨rfl, rp⟩
          | ok l =>
            obtain ⟨l0, p, g1, g2⟩ := runT_ok hs
            have L' := L
            obtain ⟨l1, l2, l3, l4, l5, l6, l7⟩ := L
            obtain ⟨p1, p2⟩ := l6 _ _ g1 g2
            have hoff : off < cs.length := by simp only [List.length_singleton] at hl; exact hl
            have htl := (List.getElem?_eq_some_iff.1 l3).1
            have hget : c1[off]? = some x := by rw [l4]; exact over_get hoff
            cases l1 with
            | nil =>
              have hp : p.1 = [] := List.length_eq_zero_iff.1 p1
              refine awp_soften l3 hget ?_
              have rp := LSt.fin (h2 := h'.set tid (.cells (c1.set off (.list [] .no)))) L' hNN.symm g1 g2 hoff (l5.put hn1 hn2) (by rw [hp]; exact List.getElem?_set_self htl) (l7.trans (Kept.one (.inr (.inr rfl)) _))
              have hkl := l7.1
              clear L' l3 l5 l6 l7 hget htl hoff
              repeat (first | ((first | refine zd ?_ | refine zx ?_ | refine zk ?_ | refine zl ?_ | refine zr ?_); refine zq ?_) | refine zs ?_ | refine zg ?_ | refine zb ?_ | refine zo ?_ | refine zt ?_ | refine zf ?_)
              first | refine body_all (.inr rfl) (by simp -implicitDefEqProofs; rfl) (by simp -implicitDefEqProofs; rfl) (by first | (simp; done) | (simp; omega) | omega) ?_ | refine body_all (.inl rfl) (by simp -implicitDefEqProofs; rfl) (by simp -implicitDefEqProofs; rfl) (by first | (simp; done) | (simp; omega) | omega) ?_
              exact ⟨rfl, rp⟩
            | arr id n c _ ho hcl hn h0 =>
              have hth := (List.getElem?_eq_some_iff.1 ht).1
              have hrn := Rq.ids hq
              have hid := l2 id 0 i c rfl
              refine awp_fixk (k := 3) (xs := p.1.map Iid.av) ho p2 (by simp [p1]) (idl_uni _) (by decide) (by omega) l3 hget (by omega) ?_
              have rp := LSt.fin (h2 := (h'.set id .dead).set tid (.cells (c1.set off (.list (p.1.map Iid.av) .no)))) L' hNN.symm g1 g2 hoff ((l5.put (by omega) (by omega)).put hn1 hn2) (List.getElem?_set_self (by simp; exact htl))
                ⟨by have := l7.1; simp; omega, fun j hj hn => (by rw [List.getElem?_set_ne (fun e => hn (.inr (.inr e.symm))), List.getElem?_set_ne (by omega)]; exact l7.2.1 j hj hn), fun j hj => .inl hj⟩
              have hkl := l7.1
              clear L' l3 l5 l6 l7 hget htl hoff
              repeat (first | ((first | refine zd ?_ | refine zx ?_ | refine zk ?_ | refine zl ?_ | refine zr ?_); refine zq ?_) | refine zs ?_ | refine zg ?_ | refine zb ?_ | refine zo ?_ | refine zt ?_ | refine zf ?_)
              first | refine body_all (.inr rfl) (by simp -implicitDefEqProofs; rfl) (by simp -implicitDefEqProofs; rfl) (by first | (simp; done) | (simp; omega) | omega) ?_ | refine body_all (.inl rfl) (by simp -implicitDefEqProofs; rfl) (by simp -implicitDefEqProofs; rfl) (by first | (simp; done) | (simp; omega) | omega) ?_
              exact ⟨rfl, rp⟩
      · exact ⟨0, _, _, _, _, _, rfl, by omega, L0, st_keep' (by simp [rv]) (by simp [rv])⟩
theorem rnums_ok : Rds rv 69 [.func (.func 70) [] []] [.list [] .full] (rdList rdN1) (fun xs => [.list (xs.map iv) .no]) := by
  rintro h rid nrid tid cs off st hq hn1 hn2 ht hz hl
  have hc : cs[off]? = some (.list [] .full) := by
    have := congrArg (fun l => l[0]?) hz
    simpa using this
  unfold rv
  refine acalls_of_awp Tryz.func69 rfl (by simp only [List.length_cons, List.length_nil]; decide) ?_
  simp only [params_cons, params_nil]
  refine awp_seq ?_
  refine awp_draw (.q 0 (.q 1 (.q 2 (.q 5 (.q 6 (.q 7 (.a 3 (.q 4 (.a 8 (.q 9 (.done))))))))))) (by kernel_rfl) (by kernel_rfl) (tree_start (goesT_eq (by simp -implicitDefEqProofs (disch := (first | omega | (simp; done) | fail)) [if_pos, if_neg, wrap_i64, tmod_pos, tdiv_pos, Int.toNat_add, rv, ht, hc]; rfl) ?_))
  refine goesT_callS (callable_of Tryz.func138) (by simp -implicitDefEqProofs (disch := (first | omega | (simp; done) | fail)) [if_pos, if_neg, wrap_i64, tmod_pos, tdiv_pos, Int.toNat_add, pm] <;> first | rfl | omega) _ (msz_ok _ rid nrid st _ hq) ?_
  rintro _ h1 ⟨rfl, hq1, k1⟩
  have L0 : LSt h rid nrid tid cs off (runT rdSize st) rdN1 iv 1 0 (.list [] .full) 0 [] cs h1 := LSt.start k1 (Rq.tid k1 ht hn1 hn2) hc hq1
  have hN := size_le st
  generalize hNN : runV rdSize 0 st = N at hN
  refine zE ?_
  refine goesT_done ?_
  (try simp only [vq, if_true, reduceIte, Nat.reduceEqDiff, reduceCtorEq])
  repeat (first | ((first | refine zd ?_ | refine zx ?_ | refine zk ?_ | refine zl ?_ | refine zr ?_); refine zq ?_) | refine zs ?_ | refine zg ?_ | refine zb ?_ | refine zo ?_ | refine zt ?_ | refine zf ?_)
  refine awp_loop (fun z st' => ∃ (i : Nat) (h' : AHeap) (x : AV) (c : Nat) (cs0 c1 : List AV), z = N - i ∧ i ≤ N ∧ LSt h rid nrid tid cs off (runT rdSize st) rdN1 iv 1 i x c cs0 c1 h' ∧
    st'.le ⟨Tryz.f69.ntmps, [(0, rv rid), (1, .ptr tid off), (2, .func (.func 70) [] []), (7, .ptr rid 0), (8, .bool true), (25, .int .i64 N), (26, .int .i64 i)], h'⟩) N ?_ ?_
  rotate_left
  · rintro z st' ⟨i, h', x, c, cs0, c1, rfl, hi, L, hle⟩
    refine awp_le hle ?_
    unfold rv
    repeat (first | ((first | refine zd ?_ | refine zx ?_ | refine zk ?_ | refine zl ?_ | refine zr ?_); refine zq ?_) | refine zs ?_ | refine zg ?_ | refine zb ?_ | refine zo ?_ | refine zt ?_ | refine zf ?_)
    refine awp_cond rfl (fun h5 => ?_) (fun h5 => ?_)
    · simp at h5
      have L' := L
      obtain ⟨l1, l2, l3, l4, l5, l6, l7⟩ := L
      have hq0 := l5
      obtain ⟨lb, e1, e2, hr, hcr, hne, hsi, hll⟩ := l5
      by_cases he2 : e2 = 0
      · subst he2
        repeat (first | ((first | refine zd ?_ | refine zx ?_ | refine zk ?_ | refine zl ?_ | refine zr ?_); refine zq ?_) | refine zs ?_ | refine zh (by simp -implicitDefEqProofs (disch := (first | omega | (simp; done) | fail)) [if_pos, if_neg, wrap_i64, tmod_pos, tdiv_pos, Int.toNat_add, hcr]; rfl) ?_ | refine zb ?_ | refine zo ?_ | refine zt ?_ | refine zf ?_)
        refine goes_callS (callable_of Tryz.func85) (by simp -implicitDefEqProofs (disch := (first | omega | (simp; done) | fail)) [if_pos, if_neg, wrap_i64, tmod_pos, tdiv_pos, Int.toNat_add] <;> first | rfl | omega) _ (rleft_ok _ nrid lb e1 hr) ?_
        rintro _ h3 ⟨rfl, rfl⟩
        by_cases hlb : lb = []
        · have hsto : ∀ l, runT (rdN rdN1 i) (runT rdSize st) = .ok l → l = [] := fun l hl => by rw [hl] at hsi; obtain ⟨-, -, h3⟩ := hsi; rw [h3, hlb]
          subst hlb
          refine ze ?_
          repeat (first | ((first | refine zd ?_ | refine zx ?_ | refine zk ?_ | refine zl ?_ | refine zr ?_); refine zq ?_) | refine zs ?_ | refine zg ?_ | refine zb ?_ | refine zo ?_ | refine zt ?_ | refine zf ?_)
          refine goes_callS (callable_of Tryz.func86) (by simp -implicitDefEqProofs (disch := (first | omega | (simp; done) | fail)) [if_pos, if_neg, wrap_i64, tmod_pos, tdiv_pos, Int.toNat_add] <;> first | rfl | omega) _ (mstop_ok _ rid nrid _ hq0) ?_
          rintro _ h2 ⟨rfl, hq2, k2⟩
          have hkl : h.length ≤ h2.length := Nat.le_trans l7.1 k2.1
          refine ze ?_
          repeat (first | ((first | refine zd ?_ | refine zx ?_ | refine zk ?_ | refine zl ?_ | refine zr ?_); refine zq ?_) | refine zs ?_ | refine zg ?_ | refine zb ?_ | refine zo ?_ | refine zt ?_ | refine zf ?_)
          first | refine body_all (.inr rfl) (by simp -implicitDefEqProofs; rfl) (by simp -implicitDefEqProofs; rfl) (by first | (simp; done) | (simp; omega) | omega) ?_ | refine body_all (.inl rfl) (by simp -implicitDefEqProofs; rfl) (by simp -implicitDefEqProofs; rfl) (by first | (simp; done) | (simp; omega) | omega) ?_
          exact ⟨rfl, LSt.stop L' (by omega) hsto hn1 hn2 hq2 k2⟩
        · have hlb' : ((lb.length : Int) == 0) = false := by simp [hlb]
          have hsto : runT (rdN rdN1 i) (runT rdSize st) ≠ .ok [] := fun hl => by rw [hl] at hsi; obtain ⟨-, -, h3⟩ := hsi; exact hlb h3.symm
          refine goes_eq (by simp -implicitDefEqProofs (disch := (first | omega | (simp; done) | fail)) [if_pos, if_neg, wrap_i64, tmod_pos, tdiv_pos, Int.toNat_add, hlb', hlb]; rfl) ?_
          refine goes_done ?_
          simp only [vq, if_true, reduceIte, Nat.reduceEqDiff, reduceCtorEq]
          refine awp_cond_f rfl ?_
          refine awp_skip ?_
          simp only [vq, if_true, reduceIte, Nat.reduceEqDiff, reduceCtorEq]
          refine awp_seq ?_
          refine zg ?_
          refine goes_done ?_
          (try simp only [vq, if_true, reduceIte, Nat.reduceEqDiff, reduceCtorEq])
          have ids := Rq.ids hq0
          have hth := (List.getElem?_eq_some_iff.1 ht).1
          have hrn := Rq.ids hq
          refine awp_mid (fun st' => ∃ (aid c' : Nat) (cs1 c1' : List AV) (h4 : AHeap), LMid h rid nrid tid cs off (runT rdSize st) rdN1 iv 1 i [iv 0] aid c' cs1 c1' h4 ∧
            st'.le ⟨Tryz.f69.ntmps, [(0, rv rid), (1, .ptr tid off), (2, .func (.func 70) [] []), (7, .ptr rid 0), (8, .bool true), (9, .int .i64 i), (25, .int .i64 N), (26, .int .i64 i)], h4⟩) ?_ ?_
          · rintro st' ⟨aid, c', cs1, c1', h4, M, hle⟩
            refine awp_le hle ?_
            have M' := M
            obtain ⟨m1, m2, m3, m4, m5, m6, m7, m8, m9, m10⟩ := M
            have mget : c1'[off]? = some (.arr aid 0 (i + 1) c') := by rw [m7]; exact over_get (by simp only [List.length_singleton] at hl; exact hl)
            have i1 : i < i + 1 := Nat.lt_succ_self i
            clear hle m7
            unfold rv
            repeat (first | ((first | refine zd ?_ | refine zx ?_ | refine zk ?_ | refine zl ?_ | refine zr ?_); refine zq ?_) | refine zs ?_ | refine zh (by simp -implicitDefEqProofs (disch := (first | omega | (simp; done) | fail)) [if_pos, if_neg, wrap_i64, tmod_pos, tdiv_pos, Int.toNat_add, m6, mget, i1]; rfl) ?_ | refine zb ?_ | refine zo ?_ | refine zt ?_ | refine zf ?_)
            clear mget i1
            have hmul : i * 1 + 1 ≤ c' * 1 := by omega
            refine goes_callS (callable_of Tryz.func70) (by simp -implicitDefEqProofs (disch := (first | omega | (simp; done) | fail)) [if_pos, if_neg, wrap_i64, tmod_pos, tdiv_pos, Int.toNat_add, rv] <;> first | rfl | omega) _ (rnumber_ok h4 rid nrid aid cs1 (i * 1) _ m8 (by omega) (by omega) m1 m4 (by rw [m2]; exact hmul)) ?_
            rintro _ h5' ⟨rfl, rp⟩
            obtain ⟨cs2, L2⟩ := LMid.step M' hsto (cf := (fun n => [iv n])) (fun a => by simp [AV.cells]) hth hn1 hn2 rp
            clear rp m8 m6 m1 M'
            have hi1 : i + 1 ≤ N := h5
            have h21 : N - (i + 1) < N - i := by omega
            refine goes_eq (by simp -implicitDefEqProofs (disch := (first | omega | (simp; done) | fail)) [if_pos, if_neg, wrap_i64, tmod_pos, tdiv_pos, Int.toNat_add, rv]; rfl) ?_
            repeat (first | ((first | refine zd ?_ | refine zx ?_ | refine zk ?_ | refine zl ?_ | refine zr ?_); refine zq ?_) | refine zs ?_ | refine zh (by simp -implicitDefEqProofs (disch := (first | omega | (simp; done) | fail)) [if_pos, if_neg, wrap_i64, tmod_pos, tdiv_pos, Int.toNat_add, rv]; rfl) ?_ | refine zb ?_ | refine zo ?_ | refine zt ?_ | refine zf ?_)
            exact ⟨N - (i + 1), h21, i + 1, h5', _, c', cs2, c1', rfl, hi1, L2, st_keep' (by simp [rv]) (by simp [rv])⟩
          have hget : c1[off]? = some x := by rw [l4]; exact over_get (by simp at hl; omega)
          refine awp_region_at 6 rfl rfl ?_
          refine run_start (goes_eq (by simp -implicitDefEqProofs (disch := (first | omega | (simp; done) | fail)) [if_pos, if_neg, wrap_i64, tmod_pos, tdiv_pos, Int.toNat_add, l3, hget]; rfl) ?_)
          refine goes_done ?_
          have hoff : off < cs.length := by simp only [List.length_singleton] at hl; exact hl
          have hl1 : off + 1 ≤ c1.length := by rw [l4, over_len (by simp only [List.length_singleton]; exact hoff)]; exact hoff
          refine aops_append_k (k := 1) (by_ := 8) (m := i) (c := c) (cs := cs0) (zc := [iv 0]) (z := (iv 0)) rfl rfl (by simp; rfl) (by simp) (by simp) (by simp [iv]) rfl (by decide) rfl (by simp) l1 (by simp [iv]) (by omega) (by omega) ?_
          refine ⟨fun hic id hx => ?_, fun hic c' u hc' hu => ?_⟩
          · have hx' : x = .arr id 0 i c := hx
            clear hx
            subst hx'
            have hid := l2 id 0 i c rfl
            have hs1 : ∀ o, (h3.set id o)[tid]? = some (.cells c1) := fun o => by rw [List.getElem?_set_ne (by omega)]; exact l3
            refine aops_end ?_
            refine run_start (goes_eq (by simp -implicitDefEqProofs (disch := (first | omega | (simp; done) | fail)) [if_pos, if_neg, wrap_i64, tmod_pos, tdiv_pos, Int.toNat_add, hs1, hl1]; rfl) ?_)
            refine goes_done ?_
            simp only [vq, if_true, reduceIte, Nat.reduceEqDiff, reduceCtorEq]
            have M := LSt.room (z := [iv 0]) L' hic hth hrn rfl hoff hn1 hn2 []
            rw [List.append_nil] at M
            exact ⟨_, _, _, _, _, M, st_keep' (by simp [rv]) (by simp [rv])⟩
          · have ntl := (List.getElem?_eq_some_iff.1 l3).1
            have hg : ∀ y, (h3 ++ y)[tid]? = some (.cells c1) := fun y => by rw [List.getElem?_append_left ntl]; exact l3
            clear ntl
            refine aops_end ?_
            refine run_start (goes_eq (by simp -implicitDefEqProofs (disch := (first | omega | (simp; done) | fail)) [if_pos, if_neg, wrap_i64, tmod_pos, tdiv_pos, Int.toNat_add, hg, hl1]; rfl) ?_)
            refine goes_done ?_
            simp only [vq, if_true, reduceIte, Nat.reduceEqDiff, reduceCtorEq]
            have M := LSt.grow (z := [iv 0]) L' hic hth hrn rfl hoff hn1 hn2 [] hc' hu
            rw [List.append_nil] at M
            exact ⟨_, _, _, _, _, M, st_keep' (by simp [rv]) (by simp [rv])⟩
      · have he3 : ((e2 : Int) != 0) = true := by simp; omega
        have hsto : ∀ l, runT (rdN rdN1 i) (runT rdSize st) = .ok l → l = [] := fun l hl => by rw [hl] at hsi; obtain ⟨-, h3, -⟩ := hsi; exact absurd h3 he2
        repeat (first | ((first | refine zd ?_ | refine zx ?_ | refine zk ?_ | refine zl ?_ | refine zr ?_); refine zq ?_) | refine zs ?_ | refine zh (by simp -implicitDefEqProofs (disch := (first | omega | (simp; done) | fail)) [if_pos, if_neg, wrap_i64, tmod_pos, tdiv_pos, Int.toNat_add, hcr, he3]; rfl) ?_ | refine zb ?_ | refine zo ?_ | refine zt ?_ | refine zf ?_)
        refine goes_callS (callable_of Tryz.func86) (by simp -implicitDefEqProofs (disch := (first | omega | (simp; done) | fail)) [if_pos, if_neg, wrap_i64, tmod_pos, tdiv_pos, Int.toNat_add] <;> first | rfl | omega) _ (mstop_ok _ rid nrid _ hq0) ?_
        rintro _ h2 ⟨rfl, hq2, k2⟩
        have hkl : h.length ≤ h2.length := Nat.le_trans l7.1 k2.1
        refine ze ?_
        repeat (first | ((first | refine zd ?_ | refine zx ?_ | refine zk ?_ | refine zl ?_ | refine zr ?_); refine zq ?_) | refine zs ?_ | refine zg ?_ | refine zb ?_ | refine zo ?_ | refine zt ?_ | refine zf ?_)
        first | refine body_all (.inr rfl) (by simp -implicitDefEqProofs; rfl) (by simp -implicitDefEqProofs; rfl) (by first | (simp; done) | (simp; omega) | omega) ?_ | refine body_all (.inl rfl) (by simp -implicitDefEqProofs; rfl) (by simp -implicitDefEqProofs; rfl) (by first | (simp; done) | (simp; omega) | omega) ?_
        exact ⟨rfl, LSt.stop L' (by omega) hsto hn1 hn2 hq2 k2⟩
    · simp at h5
      obtain rfl : i = N := by omega
      clear h5 hle hi
      cases hs : runT (rdN rdN1 i) (runT rdSize st) with
      | error e =>
        have rp := LSt.bad L hNN.symm hs
        have hkl := L.2.2.2.2.2.2.1
        clear L hq
        repeat (first | ((first | refine zd ?_ | refine zx ?_ | refine zk ?_ | refine zl ?_ | refine zr ?_); refine zq ?_) | refine zs ?_ | refine zg ?_ | refine zb ?_ | refine zo ?_ | refine zt ?_ | refine zf ?_)
        first | refine body_all (.inr rfl) (by simp -implicitDefEqProofs; rfl) (by simp -implicitDefEqProofs; rfl) (by first | (simp; done) | (simp; omega) | omega) ?_ | refine body_all (.inl rfl) (by simp -implicitDefEqProofs; rfl) (by simp -implicitDefEqProofs; rfl) (by first | (simp; done) | (simp; omega) | omega) ?_
        exact ⟨rfl, rp⟩
      | ok l =>
        obtain ⟨l0, p, g1, g2⟩ := runT_ok hs
        have L' := L
        obtain ⟨l1, l2, l3, l4, l5, l6, l7⟩ := L
        obtain ⟨p1, p2⟩ := l6 _ _ g1 g2
        have hoff : off < cs.length := by simp only [List.length_singleton] at hl; exact hl
        have htl := (List.getElem?_eq_some_iff.1 l3).1
        have hget : c1[off]? = some x := by rw [l4]; exact over_get hoff
        cases l1 with
        | nil =>
          have hp : p.1 = [] := List.length_eq_zero_iff.1 p1
          refine awp_soften l3 hget ?_
          have rp := LSt.fin (h2 := h'.set tid (.cells (c1.set off (.list [] .no)))) L' hNN.symm g1 g2 hoff (l5.put hn1 hn2) (by rw [hp]; exact List.getElem?_set_self htl) (l7.trans (Kept.one (.inr (.inr rfl)) _))
          have hkl := l7.1
          clear L' l3 l5 l6 l7 hget htl hoff
          repeat (first | ((first | refine zd ?_ | refine zx ?_ | refine zk ?_ | refine zl ?_ | refine zr ?_); refine zq ?_) | refine zs ?_ | refine zg ?_ | refine zb ?_ | refine zo ?_ | refine zt ?_ | refine zf ?_)
          first | refine body_all (.inr rfl) (by simp -implicitDefEqProofs; rfl) (by simp -implicitDefEqProofs; rfl) (by first | (simp; done) | (simp; omega) | omega) ?_ | refine body_all (.inl rfl) (by simp -implicitDefEqProofs; rfl) (by simp -implicitDefEqProofs; rfl) (by first | (simp; done) | (simp; omega) | omega) ?_
          exact ⟨rfl, rp⟩
        | arr id n c _ ho hcl hn h0 =>
          have hth := (List.getElem?_eq_some_iff.1 ht).1
          have hrn := Rq.ids hq
          have hid := l2 id 0 i c rfl
          refine awp_fixk (k := 1) (xs := p.1.map iv) ho p2 (by simp [p1]) (iv_uni _) (by decide) (by omega) l3 hget (by omega) ?_
          have rp := LSt.fin (h2 := (h'.set id .dead).set tid (.cells (c1.set off (.list (p.1.map iv) .no)))) L' hNN.symm g1 g2 hoff ((l5.put (by omega) (by omega)).put hn1 hn2) (List.getElem?_set_self (by simp; exact htl))
            ⟨by have := l7.1; simp; omega, fun j hj hn => (by rw [List.getElem?_set_ne (fun e => hn (.inr (.inr e.symm))), List.getElem?_set_ne (by omega)]; exact l7.2.1 j hj hn), fun j hj => .inl hj⟩
          have hkl := l7.1
          clear L' l3 l5 l6 l7 hget htl hoff
          repeat (first | ((first | refine zd ?_ | refine zx ?_ | refine zk ?_ | refine zl ?_ | refine zr ?_); refine zq ?_) | refine zs ?_ | refine zg ?_ | refine zb ?_ | refine zo ?_ | refine zt ?_ | refine zf ?_)
          first | refine body_all (.inr rfl) (by simp -implicitDefEqProofs; rfl) (by simp -implicitDefEqProofs; rfl) (by first | (simp; done) | (simp; omega) | omega) ?_ | refine body_all (.inl rfl) (by simp -implicitDefEqProofs; rfl) (by simp -implicitDefEqProofs; rfl) (by first | (simp; done) | (simp; omega) | omega) ?_
          exact ⟨rfl, rp⟩
  · exact ⟨0, _, _, _, _, _, rfl, by omega, L0, st_keep' (by simp [rv]) (by simp [rv])⟩
theorem rtexts_ok : Rds rv 96 [.func (.func 97) [] []] [.list [] .full] (rdList rdT1) (fun xs => [.list (xs.map AV.str) .no]) := by
  rintro h rid nrid tid cs off st hq hn1 hn2 ht hz hl
  have hc : cs[off]? = some (.list [] .full) := by
    have := congrArg (fun l => l[0]?) hz
    simpa using this
  unfold rv
  refine acalls_of_awp Tryz.func96 rfl (by simp only [List.length_cons, List.length_nil]; decide) ?_
  simp only [params_cons, params_nil]
  refine awp_seq ?_
  refine awp_draw (.q 0 (.q 1 (.q 2 (.q 5 (.q 6 (.q 7 (.a 3 (.q 4 (.a 8 (.q 9 (.done))))))))))) (by kernel_rfl) (by kernel_rfl) (tree_start (goesT_eq (by simp -implicitDefEqProofs (disch := (first | omega | (simp; done) | fail)) [if_pos, if_neg, wrap_i64, tmod_pos, tdiv_pos, Int.toNat_add, rv, ht, hc]; rfl) ?_))
  refine goesT_callS (callable_of Tryz.func138) (by simp -implicitDefEqProofs (disch := (first | omega | (simp; done) | fail)) [if_pos, if_neg, wrap_i64, tmod_pos, tdiv_pos, Int.toNat_add, pm] <;> first | rfl | omega) _ (msz_ok _ rid nrid st _ hq) ?_
  rintro _ h1 ⟨rfl, hq1, k1⟩
  have L0 : LSt h rid nrid tid cs off (runT rdSize st) rdT1 AV.str 1 0 (.list [] .full) 0 [] cs h1 := LSt.start k1 (Rq.tid k1 ht hn1 hn2) hc hq1
  have hN := size_le st
  generalize hNN : runV rdSize 0 st = N at hN
  refine zE ?_
  refine goesT_done ?_
  (try simp only [vq, if_true, reduceIte, Nat.reduceEqDiff, reduceCtorEq])
  repeat (first | ((first | refine zd ?_ | refine zx ?_ | refine zk ?_ | refine zl ?_ | refine zr ?_); refine zq ?_) | refine zs ?_ | refine zg ?_ | refine zb ?_ | refine zo ?_ | refine zt ?_ | refine zf ?_)
  refine awp_loop (fun z st' => ∃ (i : Nat) (h' : AHeap) (x : AV) (c : Nat) (cs0 c1 : List AV), z = N - i ∧ i ≤ N ∧ LSt h rid nrid tid cs off (runT rdSize st) rdT1 AV.str 1 i x c cs0 c1 h' ∧
    st'.le ⟨Tryz.f96.ntmps, [(0, rv rid), (1, .ptr tid off), (2, .func (.func 97) [] []), (7, .ptr rid 0), (8, .bool true), (25, .int .i64 N), (26, .int .i64 i)], h'⟩) N ?_ ?_
  rotate_left
  · rintro z st' ⟨i, h', x, c, cs0, c1, rfl, hi, L, hle⟩
    refine awp_le hle ?_
    unfold rv
    repeat (first | ((first | refine zd ?_ | refine zx ?_ | refine zk ?_ | refine zl ?_ | refine zr ?_); refine zq ?_) | refine zs ?_ | refine zg ?_ | refine zb ?_ | refine zo ?_ | refine zt ?_ | refine zf ?_)
    refine awp_cond rfl (fun h5 => ?_) (fun h5 => ?_)
    · simp at h5
      have L' := L
      obtain ⟨l1, l2, l3, l4, l5, l6, l7⟩ := L
      have hq0 := l5
      obtain ⟨lb, e1, e2, hr, hcr, hne, hsi, hll⟩ := l5
      by_cases he2 : e2 = 0
      · subst he2
        repeat (first | ((first | refine zd ?_ | refine zx ?_ | refine zk ?_ | refine zl ?_ | refine zr ?_); refine zq ?_) | refine zs ?_ | refine zh (by simp -implicitDefEqProofs (disch := (first | omega | (simp; done) | fail)) [if_pos, if_neg, wrap_i64, tmod_pos, tdiv_pos, Int.toNat_add, hcr]; rfl) ?_ | refine zb ?_ | refine zo ?_ | refine zt ?_ | refine zf ?_)
        refine goes_callS (callable_of Tryz.func85) (by simp -implicitDefEqProofs (disch := (first | omega | (simp; done) | fail)) [if_pos, if_neg, wrap_i64, tmod_pos, tdiv_pos, Int.toNat_add] <;> first | rfl | omega) _ (rleft_ok _ nrid lb e1 hr) ?_
        rintro _ h3 ⟨rfl, rfl⟩
        by_cases hlb : lb = []
        · have hsto : ∀ l, runT (rdN rdT1 i) (runT rdSize st) = .ok l → l = [] := fun l hl => by rw [hl] at hsi; obtain ⟨-, -, h3⟩ := hsi; rw [h3, hlb]
          subst hlb
          refine ze ?_
          repeat (first | ((first | refine zd ?_ | refine zx ?_ | refine zk ?_ | refine zl ?_ | refine zr ?_); refine zq ?_) | refine zs ?_ | refine zg ?_ | refine zb ?_ | refine zo ?_ | refine zt ?_ | refine zf ?_)
          refine goes_callS (callable_of Tryz.func86) (by simp -implicitDefEqProofs (disch := (first | omega | (simp; done) | fail)) [if_pos, if_neg, wrap_i64, tmod_pos, tdiv_pos, Int.toNat_add] <;> first | rfl | omega) _ (mstop_ok _ rid nrid _ hq0) ?_
          rintro _ h2 ⟨rfl, hq2, k2⟩
          have hkl : h.length ≤ h2.length := Nat.le_trans l7.1 k2.1
          refine ze ?_
          repeat (first | ((first | refine zd ?_ | refine zx ?_ | refine zk ?_ | refine zl ?_ | refine zr ?_); refine zq ?_) | refine zs ?_ | refine zg ?_ | refine zb ?_ | refine zo ?_ | refine zt ?_ | refine zf ?_)
          first | refine body_all (.inr rfl) (by simp -implicitDefEqProofs; rfl) (by simp -implicitDefEqProofs; rfl) (by first | (simp; done) | (simp; omega) | omega) ?_ | refine body_all (.inl rfl) (by simp -implicitDefEqProofs; rfl) (by simp -implicitDefEqProofs; rfl) (by first | (simp; done) | (simp; omega) | omega) ?_
          exact ⟨rfl, LSt.stop L' (by omega) hsto hn1 hn2 hq2 k2⟩
        · have hlb' : ((lb.length : Int) == 0) = false := by simp [hlb]
          have hsto : runT (rdN rdT1 i) (runT rdSize st) ≠ .ok [] := fun hl => by rw [hl] at hsi; obtain ⟨-, -, h3⟩ := hsi; exact hlb h3.symm
          refine goes_eq (by simp -implicitDefEqProofs (disch := (first | omega | (simp; done) | fail)) [if_pos, if_neg, wrap_i64, tmod_pos, tdiv_pos, Int.toNat_add, hlb', hlb]; rfl) ?_
          refine goes_done ?_
          simp only [vq, if_true, reduceIte, Nat.reduceEqDiff, reduceCtorEq]
          refine awp_cond_f rfl ?_
          refine awp_skip ?_
          simp only [vq, if_true, reduceIte, Nat.reduceEqDiff, reduceCtorEq]
          refine awp_seq ?_
          refine zg ?_
          refine goes_done ?_
          (try simp only [vq, if_true, reduceIte, Nat.reduceEqDiff, reduceCtorEq])
          have ids := Rq.ids hq0
          have hth := (List.getElem?_eq_some_iff.1 ht).1
          have hrn := Rq.ids hq
          refine awp_mid (fun st' => ∃ (aid c' : Nat) (cs1 c1' : List AV) (h4 : AHeap), LMid h rid nrid tid cs off (runT rdSize st) rdT1 AV.str 1 i [AV.str []] aid c' cs1 c1' h4 ∧
            st'.le ⟨Tryz.f96.ntmps, [(0, rv rid), (1, .ptr tid off), (2, .func (.func 97) [] []), (7, .ptr rid 0), (8, .bool true), (9, .int .i64 i), (25, .int .i64 N), (26, .int .i64 i)], h4⟩) ?_ ?_
          · rintro st' ⟨aid, c', cs1, c1', h4, M, hle⟩
            refine awp_le hle ?_
            have M' := M
            obtain ⟨m1, m2, m3, m4, m5, m6, m7, m8, m9, m10⟩ := M
            have mget : c1'[off]? = some (.arr aid 0 (i + 1) c') := by rw [m7]; exact over_get (by simp only [List.length_singleton] at hl; exact hl)
            have i1 : i < i + 1 := Nat.lt_succ_self i
            clear hle m7
            unfold rv
            repeat (first | ((first | refine zd ?_ | refine zx ?_ | refine zk ?_ | refine zl ?_ | refine zr ?_); refine zq ?_) | refine zs ?_ | refine zh (by simp -implicitDefEqProofs (disch := (first | omega | (simp; done) | fail)) [if_pos, if_neg, wrap_i64, tmod_pos, tdiv_pos, Int.toNat_add, m6, mget, i1]; rfl) ?_ | refine zb ?_ | refine zo ?_ | refine zt ?_ | refine zf ?_)
            clear mget i1
            have hmul : i * 1 + 1 ≤ c' * 1 := by omega
            refine goes_callS (callable_of Tryz.func97) (by simp -implicitDefEqProofs (disch := (first | omega | (simp; done) | fail)) [if_pos, if_neg, wrap_i64, tmod_pos, tdiv_pos, Int.toNat_add, rv] <;> first | rfl | omega) _ (rtxt_ok h4 rid nrid aid cs1 (i * 1) _ m8 (by omega) (by omega) m1 m4 (by rw [m2]; exact hmul)) ?_
            rintro _ h5' ⟨rfl, rp⟩
            obtain ⟨cs2, L2⟩ := LMid.step M' hsto (cf := (fun s => [.str s])) (fun a => by simp [AV.cells]) hth hn1 hn2 rp
            clear rp m8 m6 m1 M'
            have hi1 : i + 1 ≤ N := h5
            have h21 : N - (i + 1) < N - i := by omega
            refine goes_eq (by simp -implicitDefEqProofs (disch := (first | omega | (simp; done) | fail)) [if_pos, if_neg, wrap_i64, tmod_pos, tdiv_pos, Int.toNat_add, rv]; rfl) ?_
            repeat (first | ((first | refine zd ?_ | refine zx ?_ | refine zk ?_ | refine zl ?_ | refine zr ?_); refine zq ?_) | refine zs ?_ | refine zh (by simp -implicitDefEqProofs (disch := (first | omega | (simp; done) | fail)) [if_pos, if_neg, wrap_i64, tmod_pos, tdiv_pos, Int.toNat_add, rv]; rfl) ?_ | refine zb ?_ | refine zo ?_ | refine zt ?_ | refine zf ?_)
            exact ⟨N - (i + 1), h21, i + 1, h5', _, c', cs2, c1', rfl, hi1, L2, st_keep' (by simp [rv]) (by simp [rv])⟩
          have hget : c1[off]? = some x := by rw [l4]; exact over_get (by simp at hl; omega)
          refine awp_region_at 6 rfl rfl ?_
          refine run_start (goes_eq (by simp -implicitDefEqProofs (disch := (first | omega | (simp; done) | fail)) [if_pos, if_neg, wrap_i64, tmod_pos, tdiv_pos, Int.toNat_add, l3, hget]; rfl) ?_)
          refine goes_done ?_
          have hoff : off < cs.length := by simp only [List.length_singleton] at hl; exact hl
          have hl1 : off + 1 ≤ c1.length := by rw [l4, over_len (by simp only [List.length_singleton]; exact hoff)]; exact hoff
          refine aops_append_k (k := 1) (by_ := 16) (m := i) (c := c) (cs := cs0) (zc := [AV.str []]) (z := (AV.str [])) rfl rfl (by simp; rfl) (by simp) (by simp) (by simp [iv]) rfl (by decide) rfl (by simp) l1 (by simp [iv]) (by omega) (by omega) ?_
          refine ⟨fun hic id hx => ?_, fun hic c' u hc' hu => ?_⟩
          · have hx' : x = .arr id 0 i c := hx
            clear hx
            subst hx'
            have hid := l2 id 0 i c rfl
            have hs1 : ∀ o, (h3.set id o)[tid]? = some (.cells c1) := fun o => by rw [List.getElem?_set_ne (by omega)]; exact l3
            refine aops_end ?_
            refine run_start (goes_eq (by simp -implicitDefEqProofs (disch := (first | omega | (simp; done) | fail)) [if_pos, if_neg, wrap_i64, tmod_pos, tdiv_pos, Int.toNat_add, hs1, hl1]; rfl) ?_)
            refine goes_done ?_
            simp only [vq, if_true, reduceIte, Nat.reduceEqDiff, reduceCtorEq]
            have M := LSt.room (z := [AV.str []]) L' hic hth hrn rfl hoff hn1 hn2 []
            rw [List.append_nil] at M
            exact ⟨_, _, _, _, _, M, st_keep' (by simp [rv]) (by simp [rv])⟩
          · have ntl := (List.getElem?_eq_some_iff.1 l3).1
            have hg : ∀ y, (h3 ++ y)[tid]? = some (.cells c1) := fun y => by rw [List.getElem?_append_left ntl]; exact l3
            clear ntl
            refine aops_end ?_
            refine run_start (goes_eq (by simp -implicitDefEqProofs (disch := (first | omega | (simp; done) | fail)) [if_pos, if_neg, wrap_i64, tmod_pos, tdiv_pos, Int.toNat_add, hg, hl1]; rfl) ?_)
            refine goes_done ?_
            simp only [vq, if_true, reduceIte, Nat.reduceEqDiff, reduceCtorEq]
            have M := LSt.grow (z := [AV.str []]) L' hic hth hrn rfl hoff hn1 hn2 [] hc' hu
            rw [List.append_nil] at M
            exact ⟨_, _, _, _, _, M, st_keep' (by simp [rv]) (by simp [rv])⟩
      · have he3 : ((e2 : Int) != 0) = true := by simp; omega
        have hsto : ∀ l, runT (rdN rdT1 i) (runT rdSize st) = .ok l → l = [] := fun l hl => by rw [hl] at hsi; obtain ⟨-, h3, -⟩ := hsi; exact absurd h3 he2
        repeat (first | ((first | refine zd ?_ | refine zx ?_ | refine zk ?_ | refine zl ?_ | refine zr ?_); refine zq ?_) | refine zs ?_ | refine zh (by simp -implicitDefEqProofs (disch := (first | omega | (simp; done) | fail)) [if_pos, if_neg, wrap_i64, tmod_pos, tdiv_pos, Int.toNat_add, hcr, he3]; rfl) ?_ | refine zb ?_ | refine zo ?_ | refine zt ?_ | refine zf ?_)
        refine goes_callS (callable_of Tryz.func86) (by simp -implicitDefEqProofs (disch := (first | omega | (simp; done) | fail)) [if_pos, if_neg, wrap_i64, tmod_pos, tdiv_pos, Int.toNat_add] <;> first | rfl | omega) _ (mstop_ok _ rid nrid _ hq0) ?_
        rintro _ h2 ⟨rfl, hq2, k2⟩
        have hkl : h.length ≤ h2.length := Nat.le_trans l7.1 k2.1
        refine ze ?_
        repeat (first | ((first | refine zd ?_ | refine zx ?_ | refine zk ?_ | refine zl ?_ | refine zr ?_); refine zq ?_) | refine zs ?_ | refine zg ?_ | refine zb ?_ | refine zo ?_ | refine zt ?_ | refine zf ?_)
        first | refine body_all (.inr rfl) (by simp -implicitDefEqProofs; rfl) (by simp -implicitDefEqProofs; rfl) (by first | (simp; done) | (simp; omega) | omega) ?_ | refine body_all (.inl rfl) (by simp -implicitDefEqProofs; rfl) (by simp -implicitDefEqProofs; rfl) (by first | (simp; done) | (simp; omega) | omega) ?_
        exact ⟨rfl, LSt.stop L' (by omega) hsto hn1 hn2 hq2 k2⟩
    · simp at h5
      obtain rfl : i = N := by omega
      clear h5 hle hi
      cases hs : runT (rdN rdT1 i) (runT rdSize st) with
      | error e =>
        have rp := LSt.bad L hNN.symm hs
        have hkl := L.2.2.2.2.2.2.1
        clear L hq
        repeat (first | ((first | refine zd ?_ | refine zx ?_ | refine zk ?_ | refine zl ?_ | refine zr ?_); refine zq ?_) | refine zs ?_ | refine zg ?_ | refine zb ?_ | refine zo ?_ | refine zt ?_ | refine zf ?_)
        first | refine body_all (.inr rfl) (by simp -implicitDefEqProofs; rfl) (by simp -implicitDefEqProofs; rfl) (by first | (simp; done) | (simp; omega) | omega) ?_ | refine body_all (.inl rfl) (by simp -implicitDefEqProofs; rfl) (by simp -implicitDefEqProofs; rfl) (by first | (simp; done) | (simp; omega) | omega) ?_
        exact ⟨rfl, rp⟩
      | ok l =>
        obtain ⟨l0, p, g1, g2⟩ := runT_ok hs
        have L' := L
        obtain ⟨l1, l2, l3, l4, l5, l6, l7⟩ := L
        obtain ⟨p1, p2⟩ := l6 _ _ g1 g2
        have hoff : off < cs.length := by simp only [List.length_singleton] at hl; exact hl
        have htl := (List.getElem?_eq_some_iff.1 l3).1
        have hget : c1[off]? = some x := by rw [l4]; exact over_get hoff
        cases l1 with
        | nil =>
          have hp : p.1 = [] := List.length_eq_zero_iff.1 p1
          refine awp_soften l3 hget ?_
          have rp := LSt.fin (h2 := h'.set tid (.cells (c1.set off (.list [] .no)))) L' hNN.symm g1 g2 hoff (l5.put hn1 hn2) (by rw [hp]; exact List.getElem?_set_self htl) (l7.trans (Kept.one (.inr (.inr rfl)) _))
          have hkl := l7.1
          clear L' l3 l5 l6 l7 hget htl hoff
          repeat (first | ((first | refine zd ?_ | refine zx ?_ | refine zk ?_ | refine zl ?_ | refine zr ?_); refine zq ?_) | refine zs ?_ | refine zg ?_ | refine zb ?_ | refine zo ?_ | refine zt ?_ | refine zf ?_)
          first | refine body_all (.inr rfl) (by simp -implicitDefEqProofs; rfl) (by simp -implicitDefEqProofs; rfl) (by first | (simp; done) | (simp; omega) | omega) ?_ | refine body_all (.inl rfl) (by simp -implicitDefEqProofs; rfl) (by simp -implicitDefEqProofs; rfl) (by first | (simp; done) | (simp; omega) | omega) ?_
          exact ⟨rfl, rp⟩
        | arr id n c _ ho hcl hn h0 =>
          have hth := (List.getElem?_eq_some_iff.1 ht).1
          have hrn := Rq.ids hq
          have hid := l2 id 0 i c rfl
          refine awp_fixk (k := 1) (xs := p.1.map AV.str) ho p2 (by simp [p1]) (str_uni _) (by decide) (by omega) l3 hget (by omega) ?_
          have rp := LSt.fin (h2 := (h'.set id .dead).set tid (.cells (c1.set off (.list (p.1.map AV.str) .no)))) L' hNN.symm g1 g2 hoff ((l5.put (by omega) (by omega)).put hn1 hn2) (List.getElem?_set_self (by simp; exact htl))
            ⟨by have := l7.1; simp; omega, fun j hj hn => (by rw [List.getElem?_set_ne (fun e => hn (.inr (.inr e.symm))), List.getElem?_set_ne (by omega)]; exact l7.2.1 j hj hn), fun j hj => .inl hj⟩
          have hkl := l7.1
          clear L' l3 l5 l6 l7 hget htl hoff
          repeat (first | ((first | refine zd ?_ | refine zx ?_ | refine zk ?_ | refine zl ?_ | refine zr ?_); refine zq ?_) | refine zs ?_ | refine zg ?_ | refine zb ?_ | refine zo ?_ | refine zt ?_ | refine zf ?_)
          first | refine body_all (.inr rfl) (by simp -implicitDefEqProofs; rfl) (by simp -implicitDefEqProofs; rfl) (by first | (simp; done) | (simp; omega) | omega) ?_ | refine body_all (.inl rfl) (by simp -implicitDefEqProofs; rfl) (by simp -implicitDefEqProofs; rfl) (by first | (simp; done) | (simp; omega) | omega) ?_
          exact ⟨rfl, rp⟩
  · exact ⟨0, _, _, _, _, _, rfl, by omega, L0, st_keep' (by simp [rv]) (by simp [rv])⟩
theorem rentries_ok : Rds rv 71 [.func (.func 72) [] []] [.list [] .full] (rdList rdEntry) (fun xs => [.list (xs.map Entry.av) .no]) := by
  rintro h rid nrid tid cs off st hq hn1 hn2 ht hz hl
  have hc : cs[off]? = some (.list [] .full) := by
    have := congrArg (fun l => l[0]?) hz
    simpa using this
  unfold rv
  refine acalls_of_awp Tryz.func71 rfl (by simp only [List.length_cons, List.length_nil]; decide) ?_
  simp only [params_cons, params_nil]
  refine awp_seq ?_
  refine awp_draw (.q 0 (.q 1 (.q 2 (.q 5 (.q 6 (.q 7 (.a 3 (.q 4 (.a 8 (.q 9 (.done))))))))))) (by kernel_rfl) (by kernel_rfl) (tree_start (goesT_eq (by simp -implicitDefEqProofs (disch := (first | omega | (simp; done) | fail)) [if_pos, if_neg, wrap_i64, tmod_pos, tdiv_pos, Int.toNat_add, rv, ht, hc]; rfl) ?_))
  refine goesT_callS (callable_of Tryz.func138) (by simp -implicitDefEqProofs (disch := (first | omega | (simp; done) | fail)) [if_pos, if_neg, wrap_i64, tmod_pos, tdiv_pos, Int.toNat_add, pm] <;> first | rfl | omega) _ (msz_ok _ rid nrid st _ hq) ?_
  rintro _ h1 ⟨rfl, hq1, k1⟩
  have L0 : LSt h rid nrid tid cs off (runT rdSize st) rdEntry Entry.av 3 0 (.list [] .full) 0 [] cs h1 := LSt.start k1 (Rq.tid k1 ht hn1 hn2) hc hq1
  have hN := size_le st
  generalize hNN : runV rdSize 0 st = N at hN
  refine zE ?_
  refine goesT_done ?_
  (try simp only [vq, if_true, reduceIte, Nat.reduceEqDiff, reduceCtorEq])
  repeat (first | ((first | refine zd ?_ | refine zx ?_ | refine zk ?_ | refine zl ?_ | refine zr ?_); refine zq ?_) | refine zs ?_ | refine zg ?_ | refine zb ?_ | refine zo ?_ | refine zt ?_ | refine zf ?_)
  refine awp_loop (fun z st' => ∃ (i : Nat) (h' : AHeap) (x : AV) (c : Nat) (cs0 c1 : List AV), z = N - i ∧ i ≤ N ∧ LSt h rid nrid tid cs off (runT rdSize st) rdEntry Entry.av 3 i x c cs0 c1 h' ∧
    st'.le ⟨Tryz.f71.ntmps, [(0, rv rid), (1, .ptr tid off), (2, .func (.func 72) [] []), (7, .ptr rid 0), (8, .bool true), (25, .int .i64 N), (26, .int .i64 i)], h'⟩) N ?_ ?_
  rotate_left
  · rintro z st' ⟨i, h', x, c, cs0, c1, rfl, hi, L, hle⟩
    refine awp_le hle ?_
    unfold rv
    repeat (first | ((first | refine zd ?_ | refine zx ?_ | refine zk ?_ | refine zl ?_ | refine zr ?_); refine zq ?_) | refine zs ?_ | refine zg ?_ | refine zb ?_ | refine zo ?_ | refine zt ?_ | refine zf ?_)
    refine awp_cond rfl (fun h5 => ?_) (fun h5 => ?_)
    · simp at h5
      have L' := L
      obtain ⟨l1, l2, l3, l4, l5, l6, l7⟩ := L
      have hq0 := l5
      obtain ⟨lb, e1, e2, hr, hcr, hne, hsi, hll⟩ := l5
      by_cases he2 : e2 = 0
      · subst he2
        repeat (first | ((first | refine zd ?_ | refine zx ?_ | refine zk ?_ | refine zl ?_ | refine zr ?_); refine zq ?_) | refine zs ?_ | refine zh (by simp -implicitDefEqProofs (disch := (first | omega | (simp; done) | fail)) [if_pos, if_neg, wrap_i64, tmod_pos, tdiv_pos, Int.toNat_add, hcr]; rfl) ?_ | refine zb ?_ | refine zo ?_ | refine zt ?_ | refine zf ?_)
        refine goes_callS (callable_of Tryz.func85) (by simp -implicitDefEqProofs (disch := (first | omega | (simp; done) | fail)) [if_pos, if_neg, wrap_i64, tmod_pos, tdiv_pos, Int.toNat_add] <;> first | rfl | omega) _ (rleft_ok _ nrid lb e1 hr) ?_
        rintro _ h3 ⟨rfl, rfl⟩
        by_cases hlb : lb = []
        · have hsto : ∀ l, runT (rdN rdEntry i) (runT rdSize st) = .ok l → l = [] := fun l hl => by rw [hl] at hsi; obtain ⟨-, -, h3⟩ := hsi; rw [h3, hlb]
          subst hlb
          refine ze ?_
          repeat (first | ((first | refine zd ?_ | refine zx ?_ | refine zk ?_ | refine zl ?_ | refine zr ?_); refine zq ?_) | refine zs ?_ | refine zg ?_ | refine zb ?_ | refine zo ?_ | refine zt ?_ | refine zf ?_)
          refine goes_callS (callable_of Tryz.func86) (by simp -implicitDefEqProofs (disch := (first | omega | (simp; done) | fail)) [if_pos, if_neg, wrap_i64, tmod_pos, tdiv_pos, Int.toNat_add] <;> first | rfl | omega) _ (mstop_ok _ rid nrid _ hq0) ?_
          rintro _ h2 ⟨rfl, hq2, k2⟩
          have hkl : h.length ≤ h2.length := Nat.le_trans l7.1 k2.1
          refine ze ?_
          repeat (first | ((first | refine zd ?_ | refine zx ?_ | refine zk ?_ | refine zl ?_ | refine zr ?_); refine zq ?_) | refine zs ?_ | refine zg ?_ | refine zb ?_ | refine zo ?_ | refine zt ?_ | refine zf ?_)
          first | refine body_all (.inr rfl) (by simp -implicitDefEqProofs; rfl) (by simp -implicitDefEqProofs; rfl) (by first | (simp; done) | (simp; omega) | omega) ?_ | refine body_all (.inl rfl) (by simp -implicitDefEqProofs; rfl) (by simp -implicitDefEqProofs; rfl) (by first | (simp; done) | (simp; omega) | omega) ?_
          exact ⟨rfl, LSt.stop L' (by omega) hsto hn1 hn2 hq2 k2⟩
        · have hlb' : ((lb.length : Int) == 0) = false := by simp [hlb]
          have hsto : runT (rdN rdEntry i) (runT rdSize st) ≠ .ok [] := fun hl => by rw [hl] at hsi; obtain ⟨-, -, h3⟩ := hsi; exact hlb h3.symm
          refine goes_eq (by simp -implicitDefEqProofs (disch := (first | omega | (simp; done) | fail)) [if_pos, if_neg, wrap_i64, tmod_pos, tdiv_pos, Int.toNat_add, hlb', hlb]; rfl) ?_
          repeat (first | ((first | refine zd ?_ | refine zx ?_ | refine zk ?_ | refine zl ?_ | refine zr ?_); refine zq ?_) | refine zs ?_ | refine zg ?_ | refine zb ?_ | refine zo ?_ | refine zt ?_ | refine zf ?_)
          have ids := Rq.ids hq0
          have nr : ¬ rid = h3.length := by omega
          have ntl := (List.getElem?_eq_some_iff.1 l3).1
          have nt : ¬ tid = h3.length := by omega
          have nn : ¬ nrid = h3.length := by omega
          have hg : ∀ y, (h3 ++ y)[tid]? = some (.cells c1) := fun y => by rw [List.getElem?_append_left ntl]; exact l3
          clear ids ntl
          have hth := (List.getElem?_eq_some_iff.1 ht).1
          have hrn := Rq.ids hq
          refine awp_hard (id := h3.length) (by simp -implicitDefEqProofs; rfl) ?_
          simp -implicitDefEqProofs only [Slots.melt, AV.melt, Nat.add_left_cancel_iff, Nat.add_eq_left, Nat.left_eq_add, Nat.reduceEqDiff, reduceIte, Nat.succ_ne_self, Nat.one_ne_zero, Nat.zero_ne_one, List.set_append_right, List.set_append_left, Nat.sub_self, Nat.le_refl, Nat.add_sub_cancel_left, Nat.le_add_right, List.set_cons_zero, List.set_cons_succ, if_neg nr, if_neg nt, if_neg nn]
          have hget : c1[off]? = some x := by rw [l4]; exact over_get (by simp at hl; omega)
          refine awp_mid (fun st' => ∃ (aid c' : Nat) (cs1 c1' : List AV) (h4 : AHeap), LMid h rid nrid tid cs off (runT rdSize st) rdEntry Entry.av 3 i [AV.str [], AV.str [], iv 0] aid c' cs1 c1' h4 ∧
            st'.le ⟨Tryz.f71.ntmps, [(0, rv rid), (1, .ptr tid off), (2, .func (.func 72) [] []), (7, .ptr rid 0), (8, .bool true), (9, .int .i64 i), (25, .int .i64 N), (26, .int .i64 i)], h4⟩) ?_ ?_
          · rintro st' ⟨aid, c', cs1, c1', h4, M, hle⟩
            refine awp_le hle ?_
            have M' := M
            obtain ⟨m1, m2, m3, m4, m5, m6, m7, m8, m9, m10⟩ := M
            have mget : c1'[off]? = some (.arr aid 0 (i + 1) c') := by rw [m7]; exact over_get (by simp only [List.length_singleton] at hl; exact hl)
            have i1 : i < i + 1 := Nat.lt_succ_self i
            clear hle m7
            unfold rv
            repeat (first | ((first | refine zd ?_ | refine zx ?_ | refine zk ?_ | refine zl ?_ | refine zr ?_); refine zq ?_) | refine zs ?_ | refine zh (by simp -implicitDefEqProofs (disch := (first | omega | (simp; done) | fail)) [if_pos, if_neg, wrap_i64, tmod_pos, tdiv_pos, Int.toNat_add, m6, mget, i1]; rfl) ?_ | refine zb ?_ | refine zo ?_ | refine zt ?_ | refine zf ?_)
            clear mget i1
            have hmul : i * 3 + 3 ≤ c' * 3 := by omega
            refine goes_callS (callable_of Tryz.func72) (by simp -implicitDefEqProofs (disch := (first | omega | (simp; done) | fail)) [if_pos, if_neg, wrap_i64, tmod_pos, tdiv_pos, Int.toNat_add, rv] <;> first | rfl | omega) _ (rentry_ok h4 rid nrid aid cs1 (i * 3) _ m8 (by omega) (by omega) m1 m4 (by rw [m2]; exact hmul)) ?_
            rintro _ h5' ⟨rfl, rp⟩
            obtain ⟨cs2, L2⟩ := LMid.step M' hsto (cf := Entry.c) (fun a => by simp [Entry.av]) hth hn1 hn2 rp
            clear rp m8 m6 m1 M'
            have hi1 : i + 1 ≤ N := h5
            have h21 : N - (i + 1) < N - i := by omega
            refine goes_eq (by simp -implicitDefEqProofs (disch := (first | omega | (simp; done) | fail)) [if_pos, if_neg, wrap_i64, tmod_pos, tdiv_pos, Int.toNat_add, rv]; rfl) ?_
            repeat (first | ((first | refine zd ?_ | refine zx ?_ | refine zk ?_ | refine zl ?_ | refine zr ?_); refine zq ?_) | refine zs ?_ | refine zh (by simp -implicitDefEqProofs (disch := (first | omega | (simp; done) | fail)) [if_pos, if_neg, wrap_i64, tmod_pos, tdiv_pos, Int.toNat_add, rv]; rfl) ?_ | refine zb ?_ | refine zo ?_ | refine zt ?_ | refine zf ?_)
            exact ⟨N - (i + 1), h21, i + 1, h5', _, c', cs2, c1', rfl, hi1, L2, st_keep' (by simp [rv]) (by simp [rv])⟩
          refine awp_drawS (graft (.a 6 (.q 7 (.a 8 .done))) (.q 0 (.q 1 (.q 2 (.q 4 (.two 3 5 (.a 5 .done) (.a 3 .done))))))) (by kernel_rfl) (by kernel_rfl) (tree_graft (tree_start (goesT_eq (by simp -implicitDefEqProofs (disch := (first | omega | (simp; done) | fail)) [if_pos, if_neg, l3, hget]; rfl) ?_)))
          refine goesT_two (goesT_eq (by simp -implicitDefEqProofs (disch := (first | omega | (simp; done) | fail)) [if_pos, if_neg, wrap_i64, tmod_pos, tdiv_pos, Int.toNat_add, hg, hget]; rfl) ?_) (goesT_eq (by simp -implicitDefEqProofs (disch := (first | omega | (simp; done) | fail)) [if_pos, if_neg, wrap_i64, tmod_pos, tdiv_pos, Int.toNat_add, hg, hget]; rfl) ?_)
          · refine goesT_done ?_
            (try simp only [vq, if_true, reduceIte, Nat.reduceEqDiff, reduceCtorEq])
            have hoff : off < cs.length := by simp only [List.length_singleton] at hl; exact hl
            have hl1 : off + 1 ≤ c1.length := by rw [l4, over_len (by simp only [List.length_singleton]; exact hoff)]; exact hoff
            refine treeS_append (k := 3) (by_ := 40) (m := i) (c := c) (cs := cs0) (zc := [AV.str [], AV.str [], iv 0]) (z := (AV.agg [.str [], .str [], iv 0])) rfl rfl rfl (by simp; rfl) (by simp) (by simp) (by simp [iv]) rfl (by decide) rfl (by simp) (row_app l1 _) (by simp [iv]) (by omega) (by omega) ?_
            refine ⟨fun hic id hx => ?_, fun hic c' u hc' hu => ?_⟩
            · have hx' : x = .arr id 0 i c := hx
              clear hx
              subst hx'
              have hid := l2 id 0 i c rfl
              have hs1 : ∀ o, ((h3 ++ [AObj.dead]).set id o)[tid]? = some (.cells c1) := fun o => by rw [List.getElem?_set_ne (by omega)]; exact hg _
              refine tree_s (tree_start (goesT_eq (by simp -implicitDefEqProofs (disch := (first | omega | (simp; done) | fail)) [hs1, hl1]; rfl) ?_))
              refine goesT_done ?_
              (try simp only [vq, if_true, reduceIte, Nat.reduceEqDiff, reduceCtorEq])
              exact ⟨_, _, _, _, _, LSt.room (z := [AV.str [], AV.str [], iv 0]) L' hic hth hrn rfl hoff hn1 hn2 [.dead], st_keep' (by simp [rv]) (by simp [rv])⟩
            · refine tree_s (tree_start (goesT_eq (by simp -implicitDefEqProofs (disch := (first | omega | (simp; done) | fail)) [hg, hl1]; rfl) ?_))
              refine goesT_done ?_
              (try simp only [vq, if_true, reduceIte, Nat.reduceEqDiff, reduceCtorEq])
              have M := LSt.grow (z := [AV.str [], AV.str [], iv 0]) L' hic hth hrn rfl hoff hn1 hn2 [.dead] hc' hu
              exact ⟨_, _, _, _, _, M, st_keep' (by simp [rv]) (by simp [rv])⟩
          · refine goesT_done ?_
            (try simp only [vq, if_true, reduceIte, Nat.reduceEqDiff, reduceCtorEq])
            have hoff : off < cs.length := by simp only [List.length_singleton] at hl; exact hl
            have hl1 : off + 1 ≤ c1.length := by rw [l4, over_len (by simp only [List.length_singleton]; exact hoff)]; exact hoff
            refine treeS_append (k := 3) (by_ := 40) (m := i) (c := c) (cs := cs0) (zc := [AV.str [], AV.str [], iv 0]) (z := (AV.agg [.str [], .str [], iv 0])) rfl rfl rfl (by simp; rfl) (by simp) (by simp) (by simp [iv]) rfl (by decide) rfl (by simp) (row_app l1 _) (by simp [iv]) (by omega) (by omega) ?_
            refine ⟨fun hic id hx => ?_, fun hic c' u hc' hu => ?_⟩
            · have hx' : x = .arr id 0 i c := hx
              clear hx
              subst hx'
              have hid := l2 id 0 i c rfl
              have hs1 : ∀ o, ((h3 ++ [AObj.dead]).set id o)[tid]? = some (.cells c1) := fun o => by rw [List.getElem?_set_ne (by omega)]; exact hg _
              refine tree_s (tree_start (goesT_eq (by simp -implicitDefEqProofs (disch := (first | omega | (simp; done) | fail)) [hs1, hl1]; rfl) ?_))
              refine goesT_done ?_
              (try simp only [vq, if_true, reduceIte, Nat.reduceEqDiff, reduceCtorEq])
              exact ⟨_, _, _, _, _, LSt.room (z := [AV.str [], AV.str [], iv 0]) L' hic hth hrn rfl hoff hn1 hn2 [.dead], st_keep' (by simp [rv]) (by simp [rv])⟩
            · refine tree_s (tree_start (goesT_eq (by simp -implicitDefEqProofs (disch := (first | omega | (simp; done) | fail)) [hg, hl1]; rfl) ?_))
              refine goesT_done ?_
              (try simp only [vq, if_true, reduceIte, Nat.reduceEqDiff, reduceCtorEq])
              have M := LSt.grow (z := [AV.str [], AV.str [], iv 0]) L' hic hth hrn rfl hoff hn1 hn2 [.dead] hc' hu
              exact ⟨_, _, _, _, _, M, st_keep' (by simp [rv]) (by simp [rv])⟩
      · have he3 : ((e2 : Int) != 0) = true := by simp; omega
        have hsto : ∀ l, runT (rdN rdEntry i) (runT rdSize st) = .ok l → l = [] := fun l hl => by rw [hl] at hsi; obtain ⟨-, h3, -⟩ := hsi; exact absurd h3 he2
        repeat (first | ((first | refine zd ?_ | refine zx ?_ | refine zk ?_ | refine zl ?_ | refine zr ?_); refine zq ?_) | refine zs ?_ | refine zh (by simp -implicitDefEqProofs (disch := (first | omega | (simp; done) | fail)) [if_pos, if_neg, wrap_i64, tmod_pos, tdiv_pos, Int.toNat_add, hcr, he3]; rfl) ?_ | refine zb ?_ | refine zo ?_ | refine zt ?_ | refine zf ?_)
        refine goes_callS (callable_of Tryz.func86) (by simp -implicitDefEqProofs (disch := (first | omega | (simp; done) | fail)) [if_pos, if_neg, wrap_i64, tmod_pos, tdiv_pos, Int.toNat_add] <;> first | rfl | omega) _ (mstop_ok _ rid nrid _ hq0) ?_
        rintro _ h2 ⟨rfl, hq2, k2⟩
        have hkl : h.length ≤ h2.length := Nat.le_trans l7.1 k2.1
        refine ze ?_
        repeat (first | ((first | refine zd ?_ | refine zx ?_ | refine zk ?_ | refine zl ?_ | refine zr ?_); refine zq ?_) | refine zs ?_ | refine zg ?_ | refine zb ?_ | refine zo ?_ | refine zt ?_ | refine zf ?_)
        first | refine body_all (.inr rfl) (by simp -implicitDefEqProofs; rfl) (by simp -implicitDefEqProofs; rfl) (by first | (simp; done) | (simp; omega) | omega) ?_ | refine body_all (.inl rfl) (by simp -implicitDefEqProofs; rfl) (by simp -implicitDefEqProofs; rfl) (by first | (simp; done) | (simp; omega) | omega) ?_
        exact ⟨rfl, LSt.stop L' (by omega) hsto hn1 hn2 hq2 k2⟩
    · simp at h5
      obtain rfl : i = N := by omega
      clear h5 hle hi
      cases hs : runT (rdN rdEntry i) (runT rdSize st) with
      | error e =>
        have rp := LSt.bad L hNN.symm hs
        have hkl := L.2.2.2.2.2.2.1
        clear L hq
        repeat (first | ((first | refine zd ?_ | refine zx ?_ | refine zk ?_ | refine zl ?_ | refine zr ?_); refine zq ?_) | refine zs ?_ | refine zg ?_ | refine zb ?_ | refine zo ?_ | refine zt ?_ | refine zf ?_)
        first | refine body_all (.inr rfl) (by simp -implicitDefEqProofs; rfl) (by simp -implicitDefEqProofs; rfl) (by first | (simp; done) | (simp; omega) | omega) ?_ | refine body_all (.inl rfl) (by simp -implicitDefEqProofs; rfl) (by simp -implicitDefEqProofs; rfl) (by first | (simp; done) | (simp; omega) | omega) ?_
        exact ⟨rfl, rp⟩
      | ok l =>
        obtain ⟨l0, p, g1, g2⟩ := runT_ok hs
        have L' := L
        obtain ⟨l1, l2, l3, l4, l5, l6, l7⟩ := L
        obtain ⟨p1, p2⟩ := l6 _ _ g1 g2
        have hoff : off < cs.length := by simp only [List.length_singleton] at hl; exact hl
        have htl := (List.getElem?_eq_some_iff.1 l3).1
        have hget : c1[off]? = some x := by rw [l4]; exact over_get hoff
        cases l1 with
        | nil =>
          have hp : p.1 = [] := List.length_eq_zero_iff.1 p1
          refine awp_soften l3 hget ?_
          have rp := LSt.fin (h2 := h'.set tid (.cells (c1.set off (.list [] .no)))) L' hNN.symm g1 g2 hoff (l5.put hn1 hn2) (by rw [hp]; exact List.getElem?_set_self htl) (l7.trans (Kept.one (.inr (.inr rfl)) _))
          have hkl := l7.1
          clear L' l3 l5 l6 l7 hget htl hoff
          repeat (first | ((first | refine zd ?_ | refine zx ?_ | refine zk ?_ | refine zl ?_ | refine zr ?_); refine zq ?_) | refine zs ?_ | refine zg ?_ | refine zb ?_ | refine zo ?_ | refine zt ?_ | refine zf ?_)
          first | refine body_all (.inr rfl) (by simp -implicitDefEqProofs; rfl) (by simp -implicitDefEqProofs; rfl) (by first | (simp; done) | (simp; omega) | omega) ?_ | refine body_all (.inl rfl) (by simp -implicitDefEqProofs; rfl) (by simp -implicitDefEqProofs; rfl) (by first | (simp; done) | (simp; omega) | omega) ?_
          exact ⟨rfl, rp⟩
        | arr id n c _ ho hcl hn h0 =>
          have hth := (List.getElem?_eq_some_iff.1 ht).1
          have hrn := Rq.ids hq
          have hid := l2 id 0 i c rfl
          refine awp_fixk (k := 3) (xs := p.1.map Entry.av) ho p2 (by simp [p1]) (entl_uni _) (by decide) (by omega) l3 hget (by omega) ?_
          have rp := LSt.fin (h2 := (h'.set id .dead).set tid (.cells (c1.set off (.list (p.1.map Entry.av) .no)))) L' hNN.symm g1 g2 hoff ((l5.put (by omega) (by omega)).put hn1 hn2) (List.getElem?_set_self (by simp; exact htl))
            ⟨by have := l7.1; simp; omega, fun j hj hn => (by rw [List.getElem?_set_ne (fun e => hn (.inr (.inr e.symm))), List.getElem?_set_ne (by omega)]; exact l7.2.1 j hj hn), fun j hj => .inl hj⟩
          have hkl := l7.1
          clear L' l3 l5 l6 l7 hget htl hoff
          repeat (first | ((first | refine zd ?_ | refine zx ?_ | refine zk ?_ | refine zl ?_ | refine zr ?_); refine zq ?_) | refine zs ?_ | refine zg ?_ | refine zb ?_ | refine zo ?_ | refine zt ?_ | refine zf ?_)
          first | refine body_all (.inr rfl) (by simp -implicitDefEqProofs; rfl) (by simp -implicitDefEqProofs; rfl) (by first | (simp; done) | (simp; omega) | omega) ?_ | refine body_all (.inl rfl) (by simp -implicitDefEqProofs; rfl) (by simp -implicitDefEqProofs; rfl) (by first | (simp; done) | (simp; omega) | omega) ?_
          exact ⟨rfl, rp⟩
  · exact ⟨0, _, _, _, _, _, rfl, by omega, L0, st_keep' (by simp [rv]) (by simp [rv])⟩
end Go.Proofs.YtdncoobpdllpkaaGreat.D
