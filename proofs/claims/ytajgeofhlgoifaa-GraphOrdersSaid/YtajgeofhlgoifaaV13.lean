/- Operations on the heap: append, the whole; make. No program is named here. -/
import Derived.Test.YtajgeofhlgoifaaV12
set_option linter.unusedVariables false
set_option linter.unusedSimpArgs false
namespace Go.Proofs.Ytajgeofhlgoifaa.V
open Go Go.RowKit
section
variable {P : Program} {w0 w : World} {g : Ghost} {h : AHeap}
theorem append_none_case (S : Sim w0 g h w) (t t2 ty e : TypeId) {k : Nat} (ht : P.underlying t = some (.slice e)) (hs : sizeT P e = some k)
    (ht2 : P.underlying t2 = some .string ∨ ∃ e2, P.underlying t2 = some (.slice e2)) {xs ys : List AV} {A : Option Addr} {x : Value} {news : List Value}
    (hv : VRel g (.list xs .no) (.slice A xs.length xs.length)) (N : NewsAt P g k x ys news) (hr : xs.length + ys.length ≤ xs.length) :
    Gives P w0 g w (.list (xs ++ ys) (.own h.length)) (h ++ [.tail e k]) (Builtin.append_ #[t, t2] ty #[.slice A xs.length xs.length, x]) := by
  have hy0 : ys.length = 0 := by omega
  have hy : ys = [] := List.eq_nil_of_length_eq_zero hy0
  subst hy
  have hnews : news = [] := List.eq_nil_of_length_eq_zero (by rw [N.size]; simp)
  subst hnews
  have hrun := append_room (P := P) (g := g) (w := w) (A := A) t t2 ty e ht hs ht2 N S.agree hr
  have S1 : Sim w0 (g.push (.loose (.slice A xs.length xs.length))) (h ++ [.tail e k]) w := S.push ⟨A, _, rfl⟩ (fun id o ho hd b hb => by cases hb) (fun b hb => by cases hb)
  have l := Ghost.push_le g (.loose (.slice A xs.length xs.length))
  refine ⟨.slice A xs.length xs.length, w, _, ?_, l, ?_, S1⟩
  · rw [hrun]
    cases A <;> simp [storeCells, Sem.run_bind]
  · have := hv.mono l
    rw [List.append_nil]
    have htk : TokRel (g.push (.loose (.slice A xs.length xs.length))) (.slice A xs.length xs.length) xs.length xs.length (.own h.length) := tok_rel S.n (.inr rfl) _ _
    generalize g.push (.loose (.slice A xs.length xs.length)) = g1 at this htk ⊢
    generalize hq : (Value.slice A xs.length xs.length) = v at this htk
    generalize hq2 : AV.list xs .no = xv at this
    cases this with
    | list xs' t' a c k' b o u hc hm hn hk ha h1 h2 htt =>
      injection hq2 with e1 e2
      subst e1
      injection hq with e3 e4 e5
      subst e3
      subst e5
      exact VRel.list xs (.own h.length) A xs.length k' b o u hc hm hn hk ha h1 h2 htk
    | _ => cases hq2
theorem append_room_case (S : Sim w0 g h w) (t t2 ty e : TypeId) {k : Nat} (ht : P.underlying t = some (.slice e)) (hs : sizeT P e = some k) (hk : 0 < k)
    (ht2 : P.underlying t2 = some .string ∨ ∃ e2, P.underlying t2 = some (.slice e2)) {xs ys : List AV} {id c b bt o : Nat} {u : Nat → Value} {x : Value} {news : List Value} {cur : Array Value} (hux : uni k xs = true) (huy : uni k ys = true)
    (L : ListAt g xs k (some ⟨bt, 0, none⟩) b o u) (N : NewsAt P g k x ys news) (hr : xs.length + ys.length ≤ c) (hm : c ≤ maxLen)
    (ho : h[id]? = some (.tail e k)) (hat : g.at_ id = .tail (.slice (some ⟨bt, 0, none⟩) xs.length c)) (hbase : w0.heap.size ≤ bt) (hh : w.heap[bt]? = some (.cells cur e (0, 0))) (hcs : cur.size = c * k) (himm : ∀ o, xs.length * k ≤ o → g.imm bt o = none) :
    Gives P w0 g w (.list (xs ++ ys) (.own h.length)) (h.set id .dead ++ [.tail e k]) (Builtin.append_ #[t, t2] ty #[.slice (some ⟨bt, 0, none⟩) xs.length c, x]) := by
  have hrun := append_room (P := P) (g := g) (w := w) (A := some ⟨bt, 0, none⟩) t t2 ty e ht hs ht2 N S.agree hr
  have hfit : xs.length * k + 0 + news.length ≤ cur.size := by
    rw [N.size, hcs, Nat.add_zero, ← Nat.add_mul]; exact Nat.mul_le_mul_right k hr
  have hst := run_storeCells_at P bt (xs.length * k) e news 0 cur w hh hfit N.one
  simp only [Nat.add_zero] at hst hfit
  generalize hnc : (cur.toList.take (xs.length * k) ++ news ++ cur.toList.drop (xs.length * k + news.length)).toArray = nc at hst
  have hb' : (w.setRow bt nc).heap[bt]? = some (.cells nc e (0, 0)) := setRow_heap w bt cur nc e _ hh
  have hget : ∀ i, nc[i]? = if xs.length * k ≤ i ∧ i < xs.length * k + news.length then news[i - xs.length * k]? else cur[i]? := fun i => by
    have := overV_get (cs := cur.toList) (xs := news) (off := xs.length * k) (i := i) (by simpa using hfit)
    rw [← hnc]
    simpa using this
  have hnsz : nc.size = c * k := by
    rw [← hnc, ← hcs]
    simp only [List.size_toArray, List.length_append, List.length_take, List.length_drop, Array.length_toList]
    omega
  have S1 : Sim w0 g (h.set id .dead) (w.setRow bt nc) := by
    refine S.turn (b := bt) ho (by simp) (by rw [hat]; rfl) (by simp [World.setRow]) rfl rfl rfl (fun q _ hq => setRow_other w bt q _ hq) (fun o v e1 => ?_) (fun o n _ => frozen_no hb') (by cases g.at_ id <;> trivial)
    have hlt : o < xs.length * k := by
      rcases Nat.lt_or_ge o (xs.length * k) with h | h
      · exact h
      · rw [himm o h] at e1; cases e1
    have := S.imm bt o v e1
    rw [cell_of_row _ _ _ _ _ _ hh] at this
    rw [cell_of_row _ _ _ _ _ _ hb', hget, if_neg (by omega)]
    exact this
  have hown : ∀ i o, (h.set id .dead)[i]? = some o → o ≠ .dead → (g.at_ i).block ≠ some bt := fun i o hi hd e1 => by
    by_cases hne : id = i
    · subst hne
      rw [List.getElem?_set_self (List.getElem?_eq_some_iff.1 ho).1] at hi
      injection hi with hi; exact hd hi.symm
    · rw [List.getElem?_set_ne hne] at hi
      exact hne (S.sep id i _ o bt ho hi (by simp) hd (by rw [hat]; rfl) e1)
  obtain ⟨l, S2⟩ := S1.fix (b := bt) (lo := xs.length * k) (m := (xs.length + ys.length) * k) (u := fun q => nc.getD q .nilIface) (fun i h1 h2 => by
    rw [cell_of_row _ _ _ _ _ _ hb']
    have : i < nc.size := by rw [hnsz]; exact Nat.lt_of_lt_of_le h2 (Nat.mul_le_mul_right k hr)
    simp [Array.getD_eq_getD_getElem?, this]) (fun i _ _ _ _ => frozen_no hb') hown
  have S3 := tok_tail (b := bt) (n := xs.length + ys.length) (cap := c) (k := k) S2 hbase hb' hr hm hnsz (fun o ho => by
    rw [Ghost.fix_past ho]; exact himm o (by rw [Nat.add_mul] at ho; omega)) (fun i o hi hd e1 => hown i o hi hd e1)
  have hhl : (h.set id .dead).length = h.length := List.length_set ..
  have l2 := l.trans (Ghost.push_le (g.fix bt (xs.length * k) ((xs.length + ys.length) * k) fun q => nc.getD q .nilIface) (.tail (.slice (some ⟨bt, 0, none⟩) (xs.length + ys.length) c)))
  have huu := uni_append hux huy
  have hL : ∀ j, j < xs.length → b = bt ∧ o = 0 := fun j hj => by
    have := L.ha (by omega)
    injection this with this
    injection this with e1 e2
    exact ⟨e1.symm, e2.symm⟩
  have hgy : ∀ q, q < ys.length * k → nc.getD (xs.length * k + q) .nilIface = news.getD q .nilIface := fun q hq => by
    rw [Array.getD_eq_getD_getElem?, hget, if_pos (by rw [N.size]; omega), List.getD_eq_getElem?_getD]
    congr 2; omega
  have L2 : ListAt (g.fix bt (xs.length * k) ((xs.length + ys.length) * k) fun q => nc.getD q .nilIface) (xs ++ ys) k (some ⟨bt, 0, none⟩) bt 0 (fun q => if q < xs.length * k then u q else nc.getD q .nilIface) := by
    refine ⟨fun _ => rfl, fun j hj i hi => ?_, fun j hj i hi => ?_⟩
    · rw [Nat.zero_add]
      by_cases hx : j < xs.length
      · have hq := jk_lt hx hi
        rw [if_pos hq]
        obtain ⟨rfl, rfl⟩ := hL j hx
        have := l.imm _ _ _ (L.cell j hx i hi)
        rwa [Nat.zero_add] at this
      · have hq : ¬ (j * k + i < xs.length * k) := by
          have : xs.length * k ≤ j * k := Nat.mul_le_mul_right k (by omega)
          omega
        rw [if_neg hq]
        exact Ghost.fix_at (by omega) (jk_lt (by rw [List.length_append] at hj; exact hj) hi)
    · refine (app_rel hux (cells := fun q => if q < xs.length * k then u q else nc.getD q .nilIface) (fun j hj i hi => ?_) (fun j hj i hi => ?_) j hj i hi).mono l
      · have hi' : i < k := by rw [← uni_spec hux j hj]; exact hi
        show VRel g _ (if _ then _ else _)
        rw [if_pos (jk_lt hj hi')]; exact L.rel j hj i hi
      · have hi' : i < k := by rw [← uni_spec huy j hj]; exact hi
        show VRel g _ (if _ then _ else _)
        rw [if_neg (by omega), hgy _ (jk_lt hj hi')]; exact N.rel j hj i hi
  have L3 : ListAt ((g.fix bt (xs.length * k) ((xs.length + ys.length) * k) fun q => nc.getD q .nilIface).push (.tail (.slice (some ⟨bt, 0, none⟩) (xs.length + ys.length) c))) (xs ++ ys) k (some ⟨bt, 0, none⟩) bt 0 (fun q => if q < xs.length * k then u q else nc.getD q .nilIface) :=
    ⟨L2.ha, L2.cell, fun j hj i hi => (L2.rel j hj i hi).mono (Ghost.push_le _ _)⟩
  have hlen : (xs ++ ys).length = xs.length + ys.length := List.length_append
  have V := VRel.of_listAt (t := .own h.length) (c := c) huu L3 (by rw [hlen]; exact hr) hm (fun h => by cases h) (by rw [hlen]; have := tok_rel (h := h) (g1 := g.fix bt (xs.length * k) ((xs.length + ys.length) * k) fun q => nc.getD q .nilIface) (v := .slice (some ⟨bt, 0, none⟩) (xs.length + ys.length) c) S.n (.inl rfl) (xs.length + ys.length) c; exact this)
  rw [hlen] at V
  refine ⟨_, w.setRow bt nc, _, ?_, l2, V, S3⟩
  rw [hrun]
  simp [Sem.run_bind, Addr.add_lit, hst]
theorem ahAppend_sound {t t2 ty : TypeId} {s y z : AV} {h' : AHeap} (S : Sim w0 g h w) (e : ahAppend P t t2 s y h = some (z, h')) {vs vy : Value} (hs : VRel g s vs) (hy : VRel g y vy) :
    Gives P w0 g w z h' (Builtin.append_ #[t, t2] ty #[vs, vy]) := by
  unfold ahAppend at e
  split at e
  · rename_i el ht
    split at e
    · rename_i k by_ zc ys xs tok hsz hby hz hn
      split at e
      · rename_i hc
        obtain ⟨hzl, hk, hux, huy, h1, hbb, h63⟩ := hc
        obtain ⟨⟨news, N⟩, ht2⟩ := newsA_sound (P := P) (g := g) hn hsz hk huy h1 hy
        have hs0 := hs
        obtain ⟨A, c, rfl, hcc, hm, hnn, htok, hL⟩ := hs.list_eq
        obtain ⟨b, o, u, L⟩ := hL k hux
        have weak : c = xs.length → VRel g (.list xs .no) (.slice A xs.length xs.length) := fun e => by
          subst e
          exact VRel.of_listAt hux L (Nat.le_refl _) hm hnn trivial
        have grow : c < xs.length + ys.length → Gives P w0 g w (.list (xs ++ ys) (.own h.length)) (h ++ [.tail el k]) (Builtin.append_ #[t, t2] ty #[.slice A xs.length c, vy]) := fun hr =>
          append_grow_case S t t2 ty el ht hsz hby hz hzl hk ht2 hux huy L hnn hcc N hr hbb h63
        split at e
        · cases e
        · injection e with e
          simp only [Prod.mk.injEq] at e
          obtain ⟨rfl, rfl⟩ := e
          have hcn : c = xs.length := htok
          by_cases hr : c < xs.length + ys.length
          · exact grow hr
          · subst hcn
            exact append_none_case S t t2 ty el ht hsz ht2 (weak rfl) N (by omega)
        · rename_i id
          split at e
          · rename_i e' k' ho
            split at e
            · rename_i hek
              obtain ⟨rfl, rfl⟩ := hek
              injection e with e
              simp only [Prod.mk.injEq] at e
              obtain ⟨rfl, rfl⟩ := e
              have hhl : (h.set id .dead).length = h.length := List.length_set ..
              by_cases hr : c < xs.length + ys.length
              · have S1 := S.kill ho
                have := append_grow_case S1 t t2 ty e' ht hsz hby hz hzl hk ht2 hux huy L hnn hcc N hr hbb h63
                rw [hhl] at this
                exact this
              · obtain ⟨_, hat | hat⟩ := htok
                · have ho' := S.obj id _ ho
                  rw [hat] at ho'
                  obtain ⟨bt, n', cap, cur, e1, h2, h3, h4, h5, h6, h7⟩ := ho'
                  injection e1 with e1 e2 e3
                  subst e1; subst e2; subst e3
                  exact append_room_case S t t2 ty e' ht hsz hk ht2 hux huy L N (by omega) hm ho hat h2 h3 h6 h7
                · have ho' := S.obj id _ ho
                  rw [hat] at ho'
                  obtain ⟨a', n', e1⟩ := ho'
                  injection e1 with e1 e2 e3
                  have hcn : c = xs.length := by omega
                  subst hcn
                  have S1 := S.kill ho
                  have := append_none_case S1 t t2 ty e' ht hsz ht2 (weak rfl) N (by omega)
                  rw [hhl] at this
                  exact this
            · cases e
          · cases e
      · cases e
    · cases e
  · cases e
end
end Go.Proofs.Ytajgeofhlgoifaa.V
