import Derived.Test.YtcppoojgekaaoaaDoorIE
import Derived.Lib.ItoaLen
import Derived.Test.YtcppoojgekaaoaaDoorID
/- Sets of instances: the text of a number; the document's answer to it. -/
set_option linter.unusedVariables false
set_option linter.unusedSimpArgs false
set_option maxRecDepth 20000
namespace Go.Proofs.YtcppoojgekaaoaaDoor.I
open Go Go.Proofs.YtcppoojgekaaoaaDoor.V Go.RowKit
def pow10V : List Value := Lib.pow10Tab.map fun z => Value.int .u64 z
theorem gtab : Tryd.prog.globalNamed "internal/strconv.uint64pow10" = some 0 := by kernel_rfl
/-- The table of powers is there. -/
def Tab (h : AHeap) : Prop := ∃ t : Nat, h[t]? = some (.tab 0 pow10V)
theorem Tab.more {h : AHeap} (ht : Tab h) (x : AHeap) : Tab (h ++ x) := by
  obtain ⟨t, ht⟩ := ht
  exact ⟨t, by rw [List.getElem?_append_left (List.getElem?_eq_some_iff.1 ht).1]; exact ht⟩
theorem itoa_ok (n : Int) (h0 : -9223372036854775808 ≤ n) (h1 : n ≤ 9223372036854775807) (h : AHeap) (ht : Tab h) : ACalls Tryd.prog 29 [iv n] h fun r h' => r = .str (Lib.itoa n) ∧ h' = h := fun w0 g w vs hv S => by
  obtain ⟨v, rfl, hr⟩ := vals_one hv
  obtain rfl := hr.int_eq
  obtain ⟨t, ht⟩ := ht
  have hO := S.obj t _ ht
  have hT : Lib.TabIs Tryd.prog w "internal/strconv.uint64pow10" .u64 Lib.pow10Tab := by
    cases hat : g.at_ t with
    | blk b => rw [hat] at hO; exact hO.elim
    | tail b => rw [hat] at hO; exact hO.elim
    | loose b =>
      rw [hat] at hO
      obtain ⟨_, t, fr, hh⟩ := hO
      unfold Lib.TabIs World.var?
      rw [gtab, Option.bind_some, hh]
      rfl
  have hc : Calls Tryd.prog 29 _ _ _ := Any.strconv_Itoa (P := Tryd.prog) (ρ := Tryd.itoaL_ren) Tryd.itoaL n h0 h1 w hT
  refine hc.mono ?_
  rintro e w' ⟨rfl, k, os, rfl⟩
  refine ⟨_, _, h, g, rfl, .refl g, .str _, S.keep ?_ ?_, rfl, rfl⟩
  · exact ⟨rfl, rfl, rfl, by simp [Sort.grow], fun i hi => by simp [Sort.grow, Array.getElem?_append_left hi]⟩
  · simp [Sort.grow, World.drewN]
/-- A law, where the table is as it was laid. -/
theorem law_tab {f : FuncId} {xs : List AV} (L : ∀ h, Tab h → ACalls Tryd.prog f xs h fun r h' => r = .bool true ∧ h' = h) (w : World) {vs : Array Value} (hT : Lib.TabIs Tryd.prog w "internal/strconv.uint64pow10" .u64 Lib.pow10Tab) (hv : ValsRel (g0 w) xs vs) :
    Calls Tryd.prog f vs w fun e w' => e = .returned (.bool true) ∧ Below w.heap.size w w' := by
  let g : Ghost := { g0 w with n := 1, at_ := fun _ => .loose .nilFunc }
  have l : (g0 w).le g := ⟨Nat.zero_le _, fun i hi => absurd hi (Nat.not_lt_zero _), fun _ _ _ e => e, fun _ _ e => e, rfl⟩
  have hh : 0 < w.heap.size ∧ ∃ t fr, w.heap[0]? = some (.cells pow10V.toArray t fr) := by
    unfold Lib.TabIs World.var? at hT
    rw [gtab, Option.bind_some] at hT
    cases hx : w.heap[0]? with
    | none => rw [hx] at hT; cases hT
    | some o =>
      rw [hx] at hT
      refine ⟨(Array.getElem?_eq_some_iff.1 hx).1, ?_⟩
      cases o with
      | cells cs t fr => simp only [Option.some.injEq] at hT; exact ⟨t, fr, by rw [hT]; rfl⟩
      | _ => cases hT
  have S : Sim w g [.tab 0 pow10V] w := by
    have S0 := sim0 w
    refine ⟨Below.refl _ _, rfl, S0.imm, S0.soft, fun id o e => ?_, fun i j oi oj b ei ej di dj hb => ?_, S0.pin, fun id o b e hd hb => ?_, Nat.zero_le _, Nat.le_refl _⟩
    · cases id with
      | zero => simp at e; subst e; exact hh
      | succ id => simp at e
    · cases hb
    · cases hb
  have hv' : ValsRel g xs vs := ⟨hv.1, fun i a b => (hv.2 i a b).mono l⟩
  refine (L [.tab 0 pow10V] ⟨0, rfl⟩ w g w vs hv' S).mono fun e w' ⟨r, v, h', g', he, l, hr, S, hr1, _⟩ => ?_
  subst hr1
  exact ⟨by rw [he, hr.bool_eq], S.below⟩
end Go.Proofs.YtcppoojgekaaoaaDoor.I

/- Sets of instances: the document's digits. -/
set_option linter.unusedVariables false
set_option linter.unusedSimpArgs false
set_option maxRecDepth 20000
namespace Go.Proofs.YtcppoojgekaaoaaDoor.I
open Go Go.Proofs.YtcppoojgekaaoaaDoor.V Go.RowKit
/-- The digits that are not there yet. -/
def pre (n : Nat) : List UInt8 := if n = 0 then [] else Lib.decDigits n
theorem pre_step {n : Nat} (h : n ≠ 0) : pre n = pre (n / 10) ++ [UInt8.ofNat (48 + n % 10)] := by
  unfold pre
  rw [if_neg h]
  by_cases h1 : n < 10
  · rw [Lib.decDigits_one h1, show n / 10 = 0 by omega, show n % 10 = n by omega]
    simp
  · rw [Lib.decDigits, dif_neg h1, if_neg (by omega)]
theorem dig_len (n : Nat) (h : n < 18446744073709551616) : (Lib.decDigits n).length ≤ 20 := by
  rw [Lib.decDigits_length]; exact Lib.nDigits_le20 n h
theorem byte_dig (m : Nat) : bytesOf [AV.int IntKind.u8 ((48 + (m : Int) % 10) % 256)] = some [UInt8.ofNat (48 + m % 10)] := by
  have e : (48 + (m : Int) % 10) % 256 = ((UInt8.ofNat (48 + m % 10)).toNat : Int) := by
    rw [UInt8.toNat_ofNat']; omega
  rw [e]
  show bytesOf [b8 (UInt8.ofNat (48 + m % 10))] = _
  simp [bytesOf, byteOf_b8]
theorem digits_nat (n : Nat) (hn : n ≤ 9223372036854775807) (h : AHeap) : ACalls Tryd.prog 30 [iv n] h fun r h' => r = .str (Lib.decDigits n) ∧ h' = h := by
  have g1 : ((n : Int) == -9223372036854775808) = false := by simp
  have g2 : ¬ (n : Int) < 0 := by omega
  have hdl := dig_len n (by omega)
  refine acalls_of_awp Tryd.func30 rfl (by simp only [List.length_cons, List.length_nil]; decide) ?_
  simp only [params_cons, params_nil]
  repeat (first | ((first | refine zd ?_ | refine zx ?_ | refine zk ?_ | refine zl ?_ | refine zr ?_); refine zq ?_) | refine zs ?_ | refine zh (by simp -implicitDefEqProofs (disch := (first | omega | (simp; done) | fail)) [if_pos, if_neg, wrap_i64, tmod_pos, tdiv_pos, Int.toNat_add, g1, g2]; rfl) ?_ | refine zb ?_ | refine zo ?_ | refine zt ?_ | refine zf ?_)
  refine awp_loop (fun z st => ∃ (m : Nat) (s : List UInt8) (X : AHeap), z = m + (if s = [] then 1 else 0) ∧ m ≤ n ∧ ((s = [] ∧ m = n) ∨ (s ≠ [] ∧ pre m ++ s = Lib.decDigits n)) ∧ st.le ⟨Tryd.f30.ntmps, [(0, iv (m : Nat)), (3, .str s)], h ++ X⟩) (n + 1) ?_ ?_
  rotate_left
  rintro z st ⟨m, s, X, rfl, hmn, hs, hle⟩
  · refine awp_le hle ?_
    clear hle g1 g2
    by_cases hm : m = 0
    · subst hm
      rcases hs with ⟨rfl, rfl⟩ | ⟨hne, he⟩
      · have hb : bytesOf [AV.int IntKind.u8 48] = some [48] := by rfl
        repeat (first | ((first | refine zd ?_ | refine zx ?_ | refine zk ?_ | refine zl ?_ | refine zr ?_); refine zq ?_) | refine zs ?_ | refine zh (by simp -implicitDefEqProofs (disch := (first | omega | (simp; done) | fail)) [if_pos, if_neg, wrap_i64, tmod_pos, tdiv_pos, Int.toNat_add, hb]; rfl) ?_ | refine zb ?_ | refine zo ?_ | refine zt ?_ | refine zf ?_)
        exact ⟨0, by simp, 0, [48], X, by simp, by omega, .inr ⟨by simp, by simp [pre, Lib.decDigits]⟩, st_keep' (by simp []) (by simp [])⟩
      · have hne' : (s == []) = false := by simpa using hne
        simp only [pre, if_true, List.nil_append] at he
        repeat (first | ((first | refine zd ?_ | refine zx ?_ | refine zk ?_ | refine zl ?_ | refine zr ?_); refine zq ?_) | refine zs ?_ | refine zh (by simp -implicitDefEqProofs (disch := (first | omega | (simp; done) | fail)) [if_pos, if_neg, wrap_i64, tmod_pos, tdiv_pos, Int.toNat_add, hne']; rfl) ?_ | refine zb ?_ | refine zo ?_ | refine zt ?_ | refine zf ?_)
        first | refine zy (.inr rfl) ?_ | refine zy (.inl rfl) ?_
        simp [he]
    · have hm2 : 0 < m := by omega
      have hsl : s.length ≤ 20 := by
        rcases hs with ⟨rfl, -⟩ | ⟨-, he⟩
        · simp
        · rw [← he, List.length_append] at hdl; omega
      have hb := byte_dig m
      have q1 : s.length + 1 ≤ 9223372036854775807 := by omega
      have q2 : s.length ≤ 9223372036854775806 := by omega
      have hz : m / 10 + 0 < m + (if s = [] then 1 else 0) := by omega
      have hlt : m / 10 ≤ n := by omega
      have hn : pre (m / 10) ++ UInt8.ofNat (48 + m % 10) :: s = Lib.decDigits n := by
        have e : pre (m / 10) ++ UInt8.ofNat (48 + m % 10) :: s = pre m ++ s := by rw [pre_step hm]; simp
        rw [e]
        rcases hs with ⟨rfl, rfl⟩ | ⟨-, he⟩
        · rw [List.append_nil, pre, if_neg hm]
        · exact he
      clear hs hdl hsl
      generalize UInt8.ofNat (48 + m % 10) = c at *
      repeat (first | ((first | refine zd ?_ | refine zx ?_ | refine zk ?_ | refine zl ?_ | refine zr ?_); refine zq ?_) | refine zs ?_ | refine zh (by simp -implicitDefEqProofs (disch := (first | omega | (simp; done) | fail)) [if_pos, if_neg, wrap_i64, tmod_pos, tdiv_pos, Int.toNat_add, hm2, hb, q1, q2]; rfl) ?_ | refine zb ?_ | refine zo ?_ | refine zt ?_ | refine zf ?_)
      exact ⟨_, hz, m / 10, c :: s, X, by simp, hlt, .inr ⟨by simp, hn⟩, st_keep' (by simp []) (by simp [])⟩
  · exact ⟨n, [], [], by simp, by omega, .inl ⟨rfl, rfl⟩, st_keep' (by simp []) (by simp [])⟩
theorem digits_ok (n : Int) (h0 : -9223372036854775808 ≤ n) (h1 : n ≤ 9223372036854775807) (h : AHeap) : ACalls Tryd.prog 30 [iv n] h fun r h' => r = .str (Lib.itoa n) ∧ h' = h := by
  by_cases hn : 0 ≤ n
  · obtain ⟨k, rfl⟩ := Int.eq_ofNat_of_zero_le hn
    rw [Lib.itoa_nonneg]
    exact digits_nat k (by omega) h
  by_cases hm : n = -9223372036854775808
  · subst hm
    have e : Lib.itoa (-9223372036854775808) = [45, 57, 50, 50, 51, 51, 55, 50, 48, 51, 54, 56, 53, 52, 55, 55, 53, 56, 48, 56] := by
      unfold Lib.itoa
      simp [Lib.decDigits]
    rw [e]
    refine acalls_of_awp Tryd.func30 rfl (by simp only [List.length_cons, List.length_nil]; decide) ?_
    simp only [params_cons, params_nil]
    repeat (first | ((first | refine zd ?_ | refine zx ?_ | refine zk ?_ | refine zl ?_ | refine zr ?_); refine zq ?_) | refine zs ?_ | refine zg ?_ | refine zb ?_ | refine zo ?_ | refine zt ?_ | refine zf ?_)
    first | refine zY (.inr rfl) ?_ | refine zY (.inl rfl) ?_
    simp
  obtain ⟨k, rfl⟩ : ∃ k : Nat, n = -(k : Int) := ⟨n.natAbs, by omega⟩
  have hk1 : 1 ≤ k := by omega
  have hk2 : k ≤ 9223372036854775807 := by omega
  rw [Lib.itoa_neg k hk1]
  have g1 : (-(k : Int) == -9223372036854775808) = false := by simp; omega
  have g2 : -(k : Int) < 0 := by omega
  have hdl := dig_len k (by omega)
  have hd := fun h => digits_nat k hk2 h
  generalize Lib.decDigits k = d at *
  have q1 : d.length + 1 ≤ 9223372036854775807 := by omega
  have q2 : d.length ≤ 9223372036854775806 := by omega
  refine acalls_of_awp Tryd.func30 rfl (by simp only [List.length_cons, List.length_nil]; decide) ?_
  simp only [params_cons, params_nil]
  have g3 : 0 < k := by omega
  repeat (first | ((first | refine zd ?_ | refine zx ?_ | refine zk ?_ | refine zl ?_ | refine zr ?_); refine zq ?_) | refine zs ?_ | refine zh (by simp -implicitDefEqProofs (disch := (first | omega | (simp; done) | fail)) [if_pos, if_neg, wrap_i64, tmod_pos, tdiv_pos, Int.toNat_add, g1, g2, g3]; rfl) ?_ | refine zb ?_ | refine zo ?_ | refine zt ?_ | refine zf ?_)
  refine zp (callable_of Tryd.func30) _ (hd _) ?_
  rintro _ _ ⟨rfl, rfl⟩
  refine goes_eq (by simp -implicitDefEqProofs (disch := (first | omega | (simp; done) | fail)) [if_pos, if_neg, wrap_i64, tmod_pos, tdiv_pos, Int.toNat_add, q1, q2]; rfl) ?_
  repeat (first | ((first | refine zd ?_ | refine zx ?_ | refine zk ?_ | refine zl ?_ | refine zr ?_); refine zq ?_) | refine zs ?_ | refine zg ?_ | refine zb ?_ | refine zo ?_ | refine zt ?_ | refine zf ?_)
  first | refine zY (.inr rfl) ?_ | refine zY (.inl rfl) ?_
  simp
end Go.Proofs.YtcppoojgekaaoaaDoor.I

/- Sets of instances: texts; the document's answers Show, Valid, Right. -/
set_option linter.unusedVariables false
set_option linter.unusedSimpArgs false
set_option maxRecDepth 20000
namespace Go.Proofs.YtcppoojgekaaoaaDoor.I
open Go Go.Proofs.YtcppoojgekaaoaaDoor.V Go.RowKit
/-- Numbers that an int holds. -/
structure Fit (x : Iid) : Prop where
  e0 : -9223372036854775808 ≤ x.e
  e1 : x.e ≤ 9223372036854775807
  n0 : -9223372036854775808 ≤ x.n
  n1 : x.n ≤ 9223372036854775807
  o0 : -9223372036854775808 ≤ x.o
  o1 : x.o ≤ 9223372036854775807
def shw (x : Iid) : List UInt8 := Lib.itoa x.e ++ 46 :: (Lib.itoa x.n ++ 46 :: Lib.itoa x.o)
theorem shw_len (x : Iid) (hf : Fit x) : (shw x).length ≤ 100 := by
  have h1 := Lib.itoa_length_le x.e hf.e0 hf.e1
  have h2 := Lib.itoa_length_le x.n hf.n0 hf.n1
  have h3 := Lib.itoa_length_le x.o hf.o0 hf.o1
  simp [shw]
  omega
theorem le100 {n : Nat} (h : n ≤ 21) : n ≤ 100 := by omega
theorem show_ok (x : Iid) (hf : Fit x) (h : AHeap) (ht : Tab h) : ACalls Tryd.prog 13 [Iid.av x] h fun r h' => r = .str (shw x) ∧ h' = h :=
  show_of x _ _ _ (le100 (Lib.itoa_length_le _ hf.e0 hf.e1)) (le100 (Lib.itoa_length_le _ hf.n0 hf.n1)) (le100 (Lib.itoa_length_le _ hf.o0 hf.o1)) h (itoa_ok _ hf.e0 hf.e1 _ (ht.more _)) (itoa_ok _ hf.n0 hf.n1 _ (ht.more _)) (itoa_ok _ hf.o0 hf.o1 _ (ht.more _))
theorem rshow_of (x : Iid) (a b c : List UInt8) (la : a.length ≤ 100) (lb : b.length ≤ 100) (lc : c.length ≤ 100) (h : AHeap)
    (i1 : ACalls Tryd.prog 30 [iv x.e] (h ++ [.dead]) fun r h' => r = .str a ∧ h' = h ++ [.dead])
    (i2 : ACalls Tryd.prog 30 [iv x.n] (h ++ [.dead]) fun r h' => r = .str b ∧ h' = h ++ [.dead])
    (i3 : ACalls Tryd.prog 30 [iv x.o] (h ++ [.dead]) fun r h' => r = .str c ∧ h' = h ++ [.dead]) :
    ACalls Tryd.prog 14 [Iid.av x] h fun r h' => r = .str (a ++ 46 :: (b ++ 46 :: c)) ∧ h' = h := by
  have q1 : a.length ≤ 9223372036854775806 := by omega
  have q2 : a.length + (b.length + 1) ≤ 9223372036854775807 := by omega
  have q3 : a.length + (b.length + 1 + 1) ≤ 9223372036854775807 := by omega
  have q4 : a.length + (b.length + (c.length + 1) + 1) ≤ 9223372036854775807 := by omega
  unfold Iid.av Iid.c
  refine acalls_of_awp Tryd.func14 rfl (by simp only [List.length_cons, List.length_nil]; decide) ?_
  simp only [params_cons, params_nil]
  refine awp_seq ?_
  refine zg ?_
  refine goes_done ?_
  (try simp only [vq, if_true, reduceIte, Nat.reduceEqDiff, reduceCtorEq])
  refine awp_hard (id := h.length) (by simp -implicitDefEqProofs; rfl) ?_
  simp -implicitDefEqProofs only [Slots.melt, AV.melt, Nat.add_left_cancel_iff, Nat.add_eq_left, Nat.left_eq_add, Nat.reduceEqDiff, reduceIte, Nat.succ_ne_self, Nat.one_ne_zero, Nat.zero_ne_one, List.set_append_right, List.set_append_left, Nat.sub_self, Nat.le_refl, Nat.add_sub_cancel_left, Nat.le_add_right, List.set_cons_zero, List.set_cons_succ]
  repeat (first | ((first | refine zd ?_ | refine zx ?_ | refine zk ?_ | refine zl ?_ | refine zr ?_); refine zq ?_) | refine zs ?_ | refine zg ?_ | refine zb ?_ | refine zo ?_ | refine zt ?_ | refine zf ?_)
  refine awp_draw (.q 0 (.q 1 (.q 4 (.q 5 (.q 9 (.q 10 (.a 2 (.q 3 (.a 6 (.q 7 (.q 8 (.a 11 (.q 12 (.q 13 (.done))))))))))))))) (by kernel_rfl) (by kernel_rfl) (tree_start (goesT_eq (by simp -implicitDefEqProofs (disch := (first | omega | (simp; done) | fail)) [if_pos, if_neg, wrap_i64, tmod_pos, tdiv_pos, Int.toNat_add]; rfl) ?_))
  refine zP (callable_of Tryd.func30) _ i1 ?_
  rintro _ _ ⟨rfl, rfl⟩
  refine goesT_eq (by simp -implicitDefEqProofs (disch := (first | omega | (simp; done) | fail)) [if_pos, if_neg, wrap_i64, tmod_pos, tdiv_pos, Int.toNat_add, q1, q2, q3, q4]; rfl) ?_
  refine zP (callable_of Tryd.func30) _ i2 ?_
  rintro _ _ ⟨rfl, rfl⟩
  refine goesT_eq (by simp -implicitDefEqProofs (disch := (first | omega | (simp; done) | fail)) [if_pos, if_neg, wrap_i64, tmod_pos, tdiv_pos, Int.toNat_add, q1, q2, q3, q4]; rfl) ?_
  refine zP (callable_of Tryd.func30) _ i3 ?_
  rintro _ _ ⟨rfl, rfl⟩
  refine goesT_eq (by simp -implicitDefEqProofs (disch := (first | omega | (simp; done) | fail)) [if_pos, if_neg, wrap_i64, tmod_pos, tdiv_pos, Int.toNat_add, q1, q2, q3, q4]; rfl) ?_
  refine goesT_done ?_
  (try simp only [vq, if_true, reduceIte, Nat.reduceEqDiff, reduceCtorEq])
  repeat (first | ((first | refine zd ?_ | refine zx ?_ | refine zk ?_ | refine zl ?_ | refine zr ?_); refine zq ?_) | refine zs ?_ | refine zg ?_ | refine zb ?_ | refine zo ?_ | refine zt ?_ | refine zf ?_)
  first | refine zy (.inr rfl) ?_ | refine zy (.inl rfl) ?_
  simp
theorem rshow_ok (x : Iid) (hf : Fit x) (h : AHeap) : ACalls Tryd.prog 14 [Iid.av x] h fun r h' => r = .str (shw x) ∧ h' = h :=
  rshow_of x _ _ _ (le100 (Lib.itoa_length_le _ hf.e0 hf.e1)) (le100 (Lib.itoa_length_le _ hf.n0 hf.n1)) (le100 (Lib.itoa_length_le _ hf.o0 hf.o1)) h (digits_ok _ hf.e0 hf.e1 _) (digits_ok _ hf.n0 hf.n1 _) (digits_ok _ hf.o0 hf.o1 _)
theorem rvalid_ok (x : Iid) (h : AHeap) : ACalls Tryd.prog 12 [Iid.av x] h fun r h' => r = .bool (validB x) ∧ h' = h := by
  unfold Iid.av Iid.c validB within
  generalize x.e = e
  generalize x.n = n
  generalize x.o = o
  refine acalls_of_awp Tryd.func12 rfl (by simp only [List.length_cons, List.length_nil]; decide) ?_
  simp only [params_cons, params_nil]
  refine awp_seq ?_
  refine zg ?_
  refine goes_done ?_
  (try simp only [vq, if_true, reduceIte, Nat.reduceEqDiff, reduceCtorEq])
  refine awp_hard (id := h.length) (by simp -implicitDefEqProofs; rfl) ?_
  simp -implicitDefEqProofs only [Slots.melt, AV.melt, Nat.add_left_cancel_iff, Nat.add_eq_left, Nat.left_eq_add, Nat.reduceEqDiff, reduceIte, Nat.succ_ne_self, Nat.one_ne_zero, Nat.zero_ne_one, List.set_append_right, List.set_append_left, Nat.sub_self, Nat.le_refl, Nat.add_sub_cancel_left, Nat.le_add_right, List.set_cons_zero, List.set_cons_succ]
  by_cases h1 : 0 ≤ e
  case neg =>
    repeat (first | ((first | refine zd ?_ | refine zx ?_ | refine zk ?_ | refine zl ?_ | refine zr ?_); refine zq ?_) | refine zs ?_ | refine zh (by simp -implicitDefEqProofs (disch := (first | omega | (simp; done) | fail)) [if_pos, if_neg, wrap_i64, tmod_pos, tdiv_pos, Int.toNat_add, h1]; rfl) ?_ | refine zb ?_ | refine zo ?_ | refine zt ?_ | refine zf ?_)
    first | refine zy (.inr rfl) ?_ | refine zy (.inl rfl) ?_
    simp [h1]
  by_cases h2 : e ≤ 1048576
  case neg =>
    repeat (first | ((first | refine zd ?_ | refine zx ?_ | refine zk ?_ | refine zl ?_ | refine zr ?_); refine zq ?_) | refine zs ?_ | refine zh (by simp -implicitDefEqProofs (disch := (first | omega | (simp; done) | fail)) [if_pos, if_neg, wrap_i64, tmod_pos, tdiv_pos, Int.toNat_add, h1, h2]; rfl) ?_ | refine zb ?_ | refine zo ?_ | refine zt ?_ | refine zf ?_)
    first | refine zy (.inr rfl) ?_ | refine zy (.inl rfl) ?_
    simp [h1, h2]
  by_cases h3 : 0 ≤ n
  case neg =>
    repeat (first | ((first | refine zd ?_ | refine zx ?_ | refine zk ?_ | refine zl ?_ | refine zr ?_); refine zq ?_) | refine zs ?_ | refine zh (by simp -implicitDefEqProofs (disch := (first | omega | (simp; done) | fail)) [if_pos, if_neg, wrap_i64, tmod_pos, tdiv_pos, Int.toNat_add, h1, h2, h3]; rfl) ?_ | refine zb ?_ | refine zo ?_ | refine zt ?_ | refine zf ?_)
    first | refine zy (.inr rfl) ?_ | refine zy (.inl rfl) ?_
    simp [h1, h2, h3]
  by_cases h4 : n ≤ 31
  case neg =>
    repeat (first | ((first | refine zd ?_ | refine zx ?_ | refine zk ?_ | refine zl ?_ | refine zr ?_); refine zq ?_) | refine zs ?_ | refine zh (by simp -implicitDefEqProofs (disch := (first | omega | (simp; done) | fail)) [if_pos, if_neg, wrap_i64, tmod_pos, tdiv_pos, Int.toNat_add, h1, h2, h3, h4]; rfl) ?_ | refine zb ?_ | refine zo ?_ | refine zt ?_ | refine zf ?_)
    first | refine zy (.inr rfl) ?_ | refine zy (.inl rfl) ?_
    simp [h1, h2, h3, h4]
  by_cases h5 : 0 ≤ o
  case neg =>
    repeat (first | ((first | refine zd ?_ | refine zx ?_ | refine zk ?_ | refine zl ?_ | refine zr ?_); refine zq ?_) | refine zs ?_ | refine zh (by simp -implicitDefEqProofs (disch := (first | omega | (simp; done) | fail)) [if_pos, if_neg, wrap_i64, tmod_pos, tdiv_pos, Int.toNat_add, h1, h2, h3, h4, h5]; rfl) ?_ | refine zb ?_ | refine zo ?_ | refine zt ?_ | refine zf ?_)
    first | refine zy (.inr rfl) ?_ | refine zy (.inl rfl) ?_
    simp [h1, h2, h3, h4, h5]
  by_cases h6 : o ≤ 1099511627776
  case neg =>
    repeat (first | ((first | refine zd ?_ | refine zx ?_ | refine zk ?_ | refine zl ?_ | refine zr ?_); refine zq ?_) | refine zs ?_ | refine zh (by simp -implicitDefEqProofs (disch := (first | omega | (simp; done) | fail)) [if_pos, if_neg, wrap_i64, tmod_pos, tdiv_pos, Int.toNat_add, h1, h2, h3, h4, h5, h6]; rfl) ?_ | refine zb ?_ | refine zo ?_ | refine zt ?_ | refine zf ?_)
    first | refine zy (.inr rfl) ?_ | refine zy (.inl rfl) ?_
    simp [h1, h2, h3, h4, h5, h6]
  repeat (first | ((first | refine zd ?_ | refine zx ?_ | refine zk ?_ | refine zl ?_ | refine zr ?_); refine zq ?_) | refine zs ?_ | refine zh (by simp -implicitDefEqProofs (disch := (first | omega | (simp; done) | fail)) [if_pos, if_neg, wrap_i64, tmod_pos, tdiv_pos, Int.toNat_add, h1, h2, h3, h4, h5, h6]; rfl) ?_ | refine zb ?_ | refine zo ?_ | refine zt ?_ | refine zf ?_)
  first | refine zy (.inr rfl) ?_ | refine zy (.inl rfl) ?_
  simp [h1, h2, h3, h4, h5, h6]
theorem rright_ok (l : List Iid) (t : Tok) (hl : l.length ≤ 100000) (h : AHeap) : ACalls Tryd.prog 16 [.list (l.map Iid.av) t] h fun r h' => r = .bool (rightB l) ∧ h' = h := by
  have hu : uni 3 (l.map Iid.av) = true := uni_map fun _ => rfl
  refine acalls_of_awp Tryd.func16 rfl (by simp only [List.length_cons, List.length_nil]; decide) ?_
  simp only [params_cons, params_nil]
  repeat (first | ((first | refine zd ?_ | refine zx ?_ | refine zk ?_ | refine zl ?_ | refine zr ?_); refine zq ?_) | refine zs ?_ | refine zg ?_ | refine zb ?_ | refine zo ?_ | refine zt ?_ | refine zf ?_)
  refine awp_loop (fun z st => ∃ (j : Nat), z = l.length - j ∧ (j + 1 ≤ l.length ∨ l.length ≤ 1 ∧ j = 0) ∧ rightB (l.drop j) = rightB l ∧ st.le ⟨Tryd.f16.ntmps, [(0, .list (l.map Iid.av) t), (3, iv ((j + 1 : Nat) : Int))], h⟩) l.length ?_ ?_
  rotate_left
  rintro z st ⟨j, rfl, hj, hr, hle⟩
  · refine awp_le hle ?_
    clear hle
    by_cases h10 : l.length ≤ j + 1
    · have q5 : ¬ (j : Int) + 1 < (l.length : Int) := by omega
      rw [right_short (by simp; omega)] at hr
      repeat (first | ((first | refine zd ?_ | refine zx ?_ | refine zk ?_ | refine zl ?_ | refine zr ?_); refine zq ?_) | refine zs ?_ | refine zh (by simp -implicitDefEqProofs (disch := (first | omega | (simp; done) | fail)) [if_pos, if_neg, wrap_i64, tmod_pos, tdiv_pos, Int.toNat_add, q5]; rfl) ?_ | refine zb ?_ | refine zo ?_ | refine zt ?_ | refine zf ?_)
      first | refine zY (.inr rfl) ?_ | refine zY (.inl rfl) ?_
      simp [← hr]
    have hlt : j < l.length := by omega
    have hlt1 : j + 1 < l.length := by omega
    have q5 : ((j + 1 : Nat) : Int) < (l.length : Int) := by omega
    have hx3 : (l.map Iid.av)[j]? = some (Iid.av l[j]) := by simp [hlt]
    have hx4 : (l.map Iid.av)[j + 1]? = some (Iid.av l[j + 1]) := by simp [hlt1]
    have hd : l.drop j = l[j] :: l[j + 1] :: l.drop (j + 2) := by rw [List.drop_eq_getElem_cons hlt, List.drop_eq_getElem_cons hlt1]
    have hd2 : l.drop (j + 1) = l[j + 1] :: l.drop (j + 2) := by rw [List.drop_eq_getElem_cons hlt1]
    rw [hd, rightB, ← hd2] at hr
    have q6 : (j : Int) < (l.length : Int) := by omega
    have q7 : (j : Int) + 1 < (l.length : Int) := by omega
    have hlim : (j : Int) < 100000 := by omega
    have hz : l.length - (j + 1) < l.length - j := by omega
    generalize l[j] = a at *
    generalize l[j + 1] = b at *
    clear hlt hlt1 hd hd2
    repeat (first | ((first | refine zd ?_ | refine zx ?_ | refine zk ?_ | refine zl ?_ | refine zr ?_); refine zq ?_) | refine zs ?_ | refine zh (by simp -implicitDefEqProofs (disch := (first | omega | (simp; done) | fail)) [if_pos, if_neg, wrap_i64, tmod_pos, tdiv_pos, Int.toNat_add, q5, q7]; rfl) ?_ | refine zb ?_ | refine zo ?_ | refine zt ?_ | refine zf ?_)
    have hless := fun h => rless_ok a b h
    unfold Iid.av Iid.c at hless
    refine awp_draw (.q 0 (.q 1 (.q 2 (.q 3 (.q 4 (.q 5 (.q 6 (.q 7 (.q 8 (.a 9 (.q 10 (.done)))))))))))) (by kernel_rfl) (by kernel_rfl) (tree_start (goesT_eq (by simp -implicitDefEqProofs (disch := (first | omega | (simp; done) | fail)) [if_pos, if_neg, wrap_i64, tmod_pos, tdiv_pos, Int.toNat_add, hx3, hx4, hu, q6, q7, Iid.av, Iid.c]; rfl) ?_))
    refine zP (callable_of Tryd.func10) _ (hless _) ?_
    rintro _ _ ⟨rfl, rfl⟩
    cases hab : lessB a b with
    | false =>
      rw [hab] at hr
      refine zE ?_
      refine goesT_done ?_
      (try simp only [vq, if_true, reduceIte, Nat.reduceEqDiff, reduceCtorEq])
      repeat (first | ((first | refine zd ?_ | refine zx ?_ | refine zk ?_ | refine zl ?_ | refine zr ?_); refine zq ?_) | refine zs ?_ | refine zg ?_ | refine zb ?_ | refine zo ?_ | refine zt ?_ | refine zf ?_)
      first | refine zY (.inr rfl) ?_ | refine zY (.inl rfl) ?_
      simp [← hr]
    | true =>
      rw [hab] at hr
      refine zE ?_
      refine goesT_done ?_
      (try simp only [vq, if_true, reduceIte, Nat.reduceEqDiff, reduceCtorEq])
      repeat (first | ((first | refine zd ?_ | refine zx ?_ | refine zk ?_ | refine zl ?_ | refine zr ?_); refine zq ?_) | refine zs ?_ | refine zg ?_ | refine zb ?_ | refine zo ?_ | refine zt ?_ | refine zf ?_)
      exact ⟨l.length - (j + 1), hz, j + 1, rfl, by omega, by simpa using hr, st_keep' (by simp []) (by simp [])⟩
  · exact ⟨0, rfl, by omega, rfl, st_keep' (by simp []) (by simp [])⟩
end Go.Proofs.YtcppoojgekaaoaaDoor.I

/- Sets of instances: laws: order and texts. -/
set_option linter.unusedVariables false
set_option linter.unusedSimpArgs false
set_option maxRecDepth 20000
namespace Go.Proofs.YtcppoojgekaaoaaDoor.I
open Go Go.Proofs.YtcppoojgekaaoaaDoor.V Go.RowKit
def valD (l : List UInt8) : Nat := l.foldl (fun a c => a * 10 + (c.toNat - 48)) 0
theorem dig_nat {d : Nat} (h : d < 10) : (UInt8.ofNat (48 + d)).toNat = 48 + d := by rw [UInt8.toNat_ofNat']; omega
theorem valD_dec (n : Nat) : valD (Lib.decDigits n) = n ∧ ∀ c ∈ Lib.decDigits n, 48 ≤ c.toNat := by
  induction n using Nat.strongRecOn with
  | ind n ih =>
    by_cases h : n < 10
    · rw [Lib.decDigits_one h]
      refine ⟨?_, fun c hc => ?_⟩
      · simp only [valD, List.foldl_cons, List.foldl_nil, dig_nat h]; omega
      · rw [List.mem_singleton.1 hc, dig_nat h]; omega
    · rw [Lib.decDigits, dif_neg h]
      obtain ⟨h1, h2⟩ := ih (n / 10) (by omega)
      refine ⟨?_, fun c hc => ?_⟩
      · unfold valD at h1 ⊢
        rw [List.foldl_append, h1]
        simp only [List.foldl_cons, List.foldl_nil, dig_nat (show n % 10 < 10 by omega)]
        omega
      · rcases List.mem_append.1 hc with hc | hc
        · exact h2 c hc
        · rw [List.mem_singleton.1 hc, dig_nat (show n % 10 < 10 by omega)]; omega
theorem itoa_inj {a b : Int} (h : Lib.itoa a = Lib.itoa b) : a = b := by
  have key : ∀ n m : Nat, 45 :: Lib.decDigits n ≠ Lib.decDigits m := fun n m e => by
    have := (valD_dec m).2 45 (by rw [← e]; simp)
    exact absurd this (by decide)
  have inj : ∀ n m : Nat, Lib.decDigits n = Lib.decDigits m → n = m := fun n m e => by rw [← (valD_dec n).1, e, (valD_dec m).1]
  unfold Lib.itoa at h
  split at h <;> split at h
  · have := inj _ _ (List.cons.inj h).2; omega
  · exact (key _ _ h).elim
  · exact (key _ _ h.symm).elim
  · have := inj _ _ h; omega
theorem itoa_dot (n : Int) : (46 : UInt8) ∉ Lib.itoa n := fun h => by
  have key : ∀ m : Nat, (46 : UInt8) ∉ Lib.decDigits m := fun m hm => absurd ((valD_dec m).2 46 hm) (by decide)
  unfold Lib.itoa at h
  split at h
  · rcases List.mem_cons.1 h with e | e
    · exact absurd e (by decide)
    · exact key _ e
  · exact key _ h
theorem cut_dot : ∀ {a b r s : List UInt8}, (46 : UInt8) ∉ a → (46 : UInt8) ∉ b → a ++ 46 :: r = b ++ 46 :: s → a = b ∧ r = s
  | [], [], r, s, _, _, h => by simpa using h
  | [], y :: b, r, s, _, hb, h => by
    injection h with h1 h2
    exact absurd h1 (fun e => hb (by rw [e]; simp))
  | x :: a, [], r, s, ha, _, h => by
    injection h with h1 h2
    exact absurd h1 (fun e => ha (by rw [← e]; simp))
  | x :: a, y :: b, r, s, ha, hb, h => by
    injection h with h1 h2
    obtain ⟨e1, e2⟩ := cut_dot (fun e => ha (List.mem_cons_of_mem _ e)) (fun e => hb (List.mem_cons_of_mem _ e)) h2
    exact ⟨by rw [h1, e1], e2⟩
theorem shw_inj {a b : Iid} (h : shw a = shw b) : a = b := by
  unfold shw at h
  obtain ⟨h1, h2⟩ := cut_dot (itoa_dot _) (itoa_dot _) h
  obtain ⟨h3, h4⟩ := cut_dot (itoa_dot _) (itoa_dot _) h2
  obtain ⟨a1, a2, a3⟩ := a
  obtain ⟨b1, b2, b3⟩ := b
  simp at h1 h3 h4
  rw [itoa_inj h1, itoa_inj h3, itoa_inj h4]
theorem tells (a b : Iid) (l : List Iid) (hf : Fit a) (h : AHeap) (ht : Tab h) : ACalls Tryd.prog 3 [Iid.av a, Iid.av b, lv l] h fun r h' => r = .bool true ∧ h' = h := by
  have c1 := fun h => less_ok a b h
  have c2 := fun h => rless_ok a b h
  have c3 := fun h => valid_ok a h
  have c4 := fun h => rvalid_ok a h
  have c5 := fun x => show_ok a hf (h ++ x) (ht.more x)
  have c6 := fun h => rshow_ok a hf h
  have c7 := fun hl h => right_ok l .no hl h
  have c8 := fun hl h => rright_ok l .no hl h
  have c9 := fun hl h => has_ok l a .no hl h
  have c10 := fun hl h => rhas_ok l a .no hl h
  unfold lv
  simp only [Iid.av, Iid.c] at c1 c2 c3 c4 c5 c6 c7 c8 c9 c10 ⊢
  generalize lessB a b = p1 at *
  generalize validB a = p2 at *
  generalize shw a = p3 at *
  generalize rightB l = p4 at *
  generalize l.contains a = p5 at *
  refine acalls_of_awp Tryd.func3 rfl (by simp only [List.length_cons, List.length_nil]; decide) ?_
  simp only [params_cons, params_nil]
  refine awp_seq ?_
  refine zg ?_
  refine goes_done ?_
  (try simp only [vq, if_true, reduceIte, Nat.reduceEqDiff, reduceCtorEq])
  refine awp_hard (id := h.length) (by simp -implicitDefEqProofs; rfl) ?_
  simp -implicitDefEqProofs only [Slots.melt, AV.melt, Nat.add_left_cancel_iff, Nat.add_eq_left, Nat.left_eq_add, Nat.reduceEqDiff, reduceIte, Nat.succ_ne_self, Nat.one_ne_zero, Nat.zero_ne_one, List.set_append_right, List.set_append_left, Nat.sub_self, Nat.le_refl, Nat.add_sub_cancel_left, Nat.le_add_right, List.set_cons_zero, List.set_cons_succ]
  refine awp_hard (id := h.length + 1) (by simp -implicitDefEqProofs; rfl) ?_
  simp -implicitDefEqProofs only [Slots.melt, AV.melt, Nat.add_left_cancel_iff, Nat.add_eq_left, Nat.left_eq_add, Nat.reduceEqDiff, reduceIte, Nat.succ_ne_self, Nat.one_ne_zero, Nat.zero_ne_one, List.set_append_right, List.set_append_left, Nat.sub_self, Nat.le_refl, Nat.add_sub_cancel_left, Nat.le_add_right, List.set_cons_zero, List.set_cons_succ]
  repeat (first | ((first | refine zd ?_ | refine zx ?_ | refine zk ?_ | refine zl ?_ | refine zr ?_); refine zq ?_) | refine zs ?_ | refine zg ?_ | refine zb ?_ | refine zo ?_ | refine zt ?_ | refine zf ?_)
  refine zp (callable_of Tryd.func8) _ (works_ok _) ?_
  rintro _ h1 ⟨rfl, rfl⟩
  refine ze ?_
  by_cases h60 : (60 : Int) < (l.length : Int)
  · repeat (first | ((first | refine zd ?_ | refine zx ?_ | refine zk ?_ | refine zl ?_ | refine zr ?_); refine zq ?_) | refine zs ?_ | refine zh (by simp -implicitDefEqProofs (disch := (first | omega | (simp; done) | fail)) [if_pos, if_neg, wrap_i64, tmod_pos, tdiv_pos, Int.toNat_add, h60]; rfl) ?_ | refine zb ?_ | refine zo ?_ | refine zt ?_ | refine zf ?_)
    first | refine zy (.inr rfl) ?_ | refine zy (.inl rfl) ?_
    simp
  have hl := le60 h60
  have c7 := c7 (by omega)
  have c8 := c8 (by omega)
  have c9 := c9 (by omega)
  have c10 := c10 (by omega)
  repeat (first | ((first | refine zd ?_ | refine zx ?_ | refine zk ?_ | refine zl ?_ | refine zr ?_); refine zq ?_) | refine zs ?_ | refine zh (by simp -implicitDefEqProofs (disch := (first | omega | (simp; done) | fail)) [if_pos, if_neg, wrap_i64, tmod_pos, tdiv_pos, Int.toNat_add, h60]; rfl) ?_ | refine zb ?_ | refine zo ?_ | refine zt ?_ | refine zf ?_)
  clear h60 hl
  refine awp_draw (.q 0 (.q 1 (.q 2 (.q 3 (.q 5 (.q 6 (.a 4 (.a 7 (.q 8 (.q 9 (.q 10 (.q 11 (.q 13 (.a 12 (.a 14 (.q 15 (.q 16 (.q 17 (.q 18 (.q 20 (.a 19 (.a 21 (.q 22 (.q 23 (.q 24 (.q 25 (.q 27 (.a 26 (.a 28 (.q 29 (.q 30 (.q 31 (.q 32 (.q 33 (.q 35 (.q 36 (.a 34 (.a 37 (.q 38 (.q 39 (.q 40 (.done)))))))))))))))))))))))))))))))))))))))))) (by kernel_rfl) (by kernel_rfl) (tree_start (goesT_eq (by simp -implicitDefEqProofs (disch := (first | omega | (simp; done) | fail)) [if_pos, if_neg, wrap_i64, tmod_pos, tdiv_pos, Int.toNat_add]; rfl) ?_))
  refine zP (callable_of Tryd.func9) _ (c1 _) ?_
  rintro _ _ ⟨rfl, rfl⟩
  refine zE ?_
  refine zP (callable_of Tryd.func10) _ (c2 _) ?_
  rintro _ _ ⟨rfl, rfl⟩
  refine zE ?_
  refine zP (callable_of Tryd.func11) _ (c3 _) ?_
  rintro _ _ ⟨rfl, rfl⟩
  refine zE ?_
  refine zP (callable_of Tryd.func12) _ (c4 _) ?_
  rintro _ _ ⟨rfl, rfl⟩
  refine zE ?_
  refine zP (callable_of Tryd.func13) _ (c5 _) ?_
  rintro _ _ ⟨rfl, rfl⟩
  refine zE ?_
  refine zP (callable_of Tryd.func14) _ (c6 _) ?_
  rintro _ _ ⟨rfl, rfl⟩
  refine zE ?_
  refine zP (callable_of Tryd.func15) _ (c7 _) ?_
  rintro _ _ ⟨rfl, rfl⟩
  refine zE ?_
  refine zP (callable_of Tryd.func16) _ (c8 _) ?_
  rintro _ _ ⟨rfl, rfl⟩
  refine zE ?_
  refine zP (callable_of Tryd.func17) _ (c9 _) ?_
  rintro _ _ ⟨rfl, rfl⟩
  refine zE ?_
  refine zP (callable_of Tryd.func18) _ (c10 _) ?_
  rintro _ _ ⟨rfl, rfl⟩
  refine zE ?_
  refine goesT_done ?_
  (try simp only [vq, if_true, reduceIte, Nat.reduceEqDiff, reduceCtorEq])
  repeat (first | ((first | refine zd ?_ | refine zx ?_ | refine zk ?_ | refine zl ?_ | refine zr ?_); refine zq ?_) | refine zs ?_ | refine zg ?_ | refine zb ?_ | refine zo ?_ | refine zt ?_ | refine zf ?_)
  first | refine zy (.inr rfl) ?_ | refine zy (.inl rfl) ?_
  simp
end Go.Proofs.YtcppoojgekaaoaaDoor.I

/- Sets of instances: laws: order; walks. -/
set_option linter.unusedVariables false
set_option linter.unusedSimpArgs false
set_option maxRecDepth 20000
namespace Go.Proofs.YtcppoojgekaaoaaDoor.I
open Go Go.Proofs.YtcppoojgekaaoaaDoor.V Go.RowKit
theorem order (a b c : Iid) (fa : Fit a) (fb : Fit b) (h : AHeap) (ht : Tab h) : ACalls Tryd.prog 6 [Iid.av a, Iid.av b, Iid.av c] h fun r h' => r = .bool true ∧ h' = h := by
  have c1 := fun h => less_ok a b h
  have c2 := fun h => less_ok b a h
  have c3 := fun h => less_ok b c h
  have c4 := fun h => less_ok a c h
  have c5 := fun x => show_ok a fa (h ++ x) (ht.more x)
  have c6 := fun x => show_ok b fb (h ++ x) (ht.more x)
  have k1 : lessB a b = true → lessB b a = false := fun e => by simp [lessB] at e ⊢; omega
  have k2 : lessB a b = true → lessB b c = true → lessB a c = true := fun e f => by simp [lessB] at e f ⊢; omega
  have k3 : lessB a b = true → a ≠ b := fun e f => by subst f; simp [lessB] at e
  have k4 : lessB b a = true → a ≠ b := fun e f => by subst f; simp [lessB] at e
  have k5 : lessB a b = false → lessB b a = false → a = b := fun e f => ord_total a b (by rw [lt_less]; exact e) (by rw [lt_less]; exact f)
  have e1 := eqb a b
  have e2 := neb a b
  simp only [bne] at e2
  have e3 : (shw a == shw b) = decide (a = b) := by
    by_cases hab : a = b
    · subst hab; simp
    · have hne : shw a ≠ shw b := fun e => hab (shw_inj e)
      simp [hab, hne]
  simp only [Iid.av, Iid.c] at c1 c2 c3 c4 c5 c6 ⊢
  generalize lessB a b = x at *
  generalize lessB b a = y at *
  generalize lessB b c = z at *
  generalize lessB a c = u at *
  generalize shw a = sa at *
  generalize shw b = sb at *
  refine acalls_of_awp Tryd.func6 rfl (by simp only [List.length_cons, List.length_nil]; decide) ?_
  simp only [params_cons, params_nil]
  refine awp_seq ?_
  refine zg ?_
  refine goes_done ?_
  (try simp only [vq, if_true, reduceIte, Nat.reduceEqDiff, reduceCtorEq])
  refine awp_hard (id := h.length) (by simp -implicitDefEqProofs; rfl) ?_
  simp -implicitDefEqProofs only [Slots.melt, AV.melt, Nat.add_left_cancel_iff, Nat.add_eq_left, Nat.left_eq_add, Nat.reduceEqDiff, reduceIte, Nat.succ_ne_self, Nat.one_ne_zero, Nat.zero_ne_one, List.set_append_right, List.set_append_left, Nat.sub_self, Nat.le_refl, Nat.add_sub_cancel_left, Nat.le_add_right, List.set_cons_zero, List.set_cons_succ]
  refine awp_hard (id := h.length + 1) (by simp -implicitDefEqProofs; rfl) ?_
  simp -implicitDefEqProofs only [Slots.melt, AV.melt, Nat.add_left_cancel_iff, Nat.add_eq_left, Nat.left_eq_add, Nat.reduceEqDiff, reduceIte, Nat.succ_ne_self, Nat.one_ne_zero, Nat.zero_ne_one, List.set_append_right, List.set_append_left, Nat.sub_self, Nat.le_refl, Nat.add_sub_cancel_left, Nat.le_add_right, List.set_cons_zero, List.set_cons_succ]
  refine awp_hard (id := h.length + 2) (by simp -implicitDefEqProofs; rfl) ?_
  simp -implicitDefEqProofs only [Slots.melt, AV.melt, Nat.add_left_cancel_iff, Nat.add_eq_left, Nat.left_eq_add, Nat.reduceEqDiff, reduceIte, Nat.succ_ne_self, Nat.one_ne_zero, Nat.zero_ne_one, List.set_append_right, List.set_append_left, Nat.sub_self, Nat.le_refl, Nat.add_sub_cancel_left, Nat.le_add_right, List.set_cons_zero, List.set_cons_succ]
  repeat (first | ((first | refine zd ?_ | refine zx ?_ | refine zk ?_ | refine zl ?_ | refine zr ?_); refine zq ?_) | refine zs ?_ | refine zg ?_ | refine zb ?_ | refine zo ?_ | refine zt ?_ | refine zf ?_)
  refine zp (callable_of Tryd.func8) _ (works_ok _) ?_
  rintro _ h1 ⟨rfl, rfl⟩
  refine ze ?_
  repeat (first | ((first | refine zd ?_ | refine zx ?_ | refine zk ?_ | refine zl ?_ | refine zr ?_); refine zq ?_) | refine zs ?_ | refine zg ?_ | refine zb ?_ | refine zo ?_ | refine zt ?_ | refine zf ?_)
  refine zp (callable_of Tryd.func9) _ (c1 _) ?_
  rintro _ _ ⟨rfl, rfl⟩
  refine goes_eq (by simp -implicitDefEqProofs (disch := (first | omega | (simp; done) | fail)) [if_pos, if_neg, wrap_i64, tmod_pos, tdiv_pos, Int.toNat_add, lv]; rfl) ?_
  repeat (first | ((first | refine zd ?_ | refine zx ?_ | refine zk ?_ | refine zl ?_ | refine zr ?_); refine zq ?_) | refine zs ?_ | refine zg ?_ | refine zb ?_ | refine zo ?_ | refine zt ?_ | refine zf ?_)
  refine zp (callable_of Tryd.func9) _ (c2 _) ?_
  rintro _ _ ⟨rfl, rfl⟩
  refine goes_eq (by simp -implicitDefEqProofs (disch := (first | omega | (simp; done) | fail)) [if_pos, if_neg, wrap_i64, tmod_pos, tdiv_pos, Int.toNat_add, lv]; rfl) ?_
  repeat (first | ((first | refine zd ?_ | refine zx ?_ | refine zk ?_ | refine zl ?_ | refine zr ?_); refine zq ?_) | refine zs ?_ | refine zg ?_ | refine zb ?_ | refine zo ?_ | refine zt ?_ | refine zf ?_)
  refine zp (callable_of Tryd.func9) _ (c3 _) ?_
  rintro _ _ ⟨rfl, rfl⟩
  refine goes_eq (by simp -implicitDefEqProofs (disch := (first | omega | (simp; done) | fail)) [if_pos, if_neg, wrap_i64, tmod_pos, tdiv_pos, Int.toNat_add, lv]; rfl) ?_
  repeat (first | ((first | refine zd ?_ | refine zx ?_ | refine zk ?_ | refine zl ?_ | refine zr ?_); refine zq ?_) | refine zs ?_ | refine zg ?_ | refine zb ?_ | refine zo ?_ | refine zt ?_ | refine zf ?_)
  cases x with
  | true =>
    have hy := k1 rfl
    subst hy
    have hab := k3 rfl
    rw [decide_eq_false hab] at e1 e2 e3
    rw [Bool.not_false] at e2
    cases z with
    | true =>
      have hu := k2 rfl rfl
      subst hu
      refine awp_draw (.q 0 (.q 1 (.q 2 (.q 3 (.q 4 (.q 5 (.q 6 (.q 7 (.q 8 (.q 9 (.q 10 (.q 11 (.q 12 (.q 13 (.q 14 (.q 15 (.q 16 (.q 17 (.q 18 (.q 19 (.q 20 (.q 21 (.q 22 (.q 23 (.q 24 (.q 25 (.q 26 (.q 27 (.a 28 (.q 29 (.q 30 (.q 31 (.q 32 (.q 34 (.q 37 (.q 38 (.q 39 (.a 33 (.a 35 (.q 36 (.q 40 (.q 41 (.q 42 (.done)))))))))))))))))))))))))))))))))))))))))))) (by kernel_rfl) (by kernel_rfl) (tree_start (goesT_eq (by simp -implicitDefEqProofs (disch := (first | omega | (simp; done) | fail)) [if_pos, if_neg, wrap_i64, tmod_pos, tdiv_pos, Int.toNat_add, e1, e2, e3]; rfl) ?_))
      refine zP (callable_of Tryd.func9) _ (c4 _) ?_
      rintro _ _ ⟨rfl, rfl⟩
      refine goesT_eq (by simp -implicitDefEqProofs (disch := (first | omega | (simp; done) | fail)) [if_pos, if_neg, wrap_i64, tmod_pos, tdiv_pos, Int.toNat_add, e1, e2, e3]; rfl) ?_
      refine zP (callable_of Tryd.func13) _ (c5 _) ?_
      rintro _ _ ⟨rfl, rfl⟩
      refine goesT_eq (by simp -implicitDefEqProofs (disch := (first | omega | (simp; done) | fail)) [if_pos, if_neg, wrap_i64, tmod_pos, tdiv_pos, Int.toNat_add, e1, e2, e3]; rfl) ?_
      refine zP (callable_of Tryd.func13) _ (c6 _) ?_
      rintro _ _ ⟨rfl, rfl⟩
      refine goesT_eq (by simp -implicitDefEqProofs (disch := (first | omega | (simp; done) | fail)) [if_pos, if_neg, wrap_i64, tmod_pos, tdiv_pos, Int.toNat_add, e1, e2, e3]; rfl) ?_
      refine goesT_done ?_
      (try simp only [vq, if_true, reduceIte, Nat.reduceEqDiff, reduceCtorEq])
      repeat (first | ((first | refine zd ?_ | refine zx ?_ | refine zk ?_ | refine zl ?_ | refine zr ?_); refine zq ?_) | refine zs ?_ | refine zg ?_ | refine zb ?_ | refine zo ?_ | refine zt ?_ | refine zf ?_)
      first | refine zy (.inr rfl) ?_ | refine zy (.inl rfl) ?_
      simp
    | false =>
      refine awp_draw (.q 0 (.q 1 (.q 2 (.q 3 (.q 4 (.q 5 (.q 6 (.q 7 (.q 8 (.q 9 (.q 10 (.q 11 (.q 12 (.q 13 (.q 14 (.q 15 (.q 16 (.q 17 (.q 18 (.q 19 (.q 20 (.q 21 (.q 22 (.q 23 (.q 24 (.q 25 (.q 26 (.q 27 (.a 28 (.q 29 (.q 30 (.q 31 (.q 32 (.q 34 (.q 37 (.q 38 (.q 39 (.a 33 (.a 35 (.q 36 (.q 40 (.q 41 (.q 42 (.done)))))))))))))))))))))))))))))))))))))))))))) (by kernel_rfl) (by kernel_rfl) (tree_start (goesT_eq (by simp -implicitDefEqProofs (disch := (first | omega | (simp; done) | fail)) [if_pos, if_neg, wrap_i64, tmod_pos, tdiv_pos, Int.toNat_add, e1, e2, e3]; rfl) ?_))
      refine zP (callable_of Tryd.func13) _ (c5 _) ?_
      rintro _ _ ⟨rfl, rfl⟩
      refine goesT_eq (by simp -implicitDefEqProofs (disch := (first | omega | (simp; done) | fail)) [if_pos, if_neg, wrap_i64, tmod_pos, tdiv_pos, Int.toNat_add, e1, e2, e3]; rfl) ?_
      refine zP (callable_of Tryd.func13) _ (c6 _) ?_
      rintro _ _ ⟨rfl, rfl⟩
      refine goesT_eq (by simp -implicitDefEqProofs (disch := (first | omega | (simp; done) | fail)) [if_pos, if_neg, wrap_i64, tmod_pos, tdiv_pos, Int.toNat_add, e1, e2, e3]; rfl) ?_
      refine goesT_done ?_
      (try simp only [vq, if_true, reduceIte, Nat.reduceEqDiff, reduceCtorEq])
      repeat (first | ((first | refine zd ?_ | refine zx ?_ | refine zk ?_ | refine zl ?_ | refine zr ?_); refine zq ?_) | refine zs ?_ | refine zg ?_ | refine zb ?_ | refine zo ?_ | refine zt ?_ | refine zf ?_)
      first | refine zy (.inr rfl) ?_ | refine zy (.inl rfl) ?_
      simp
  | false =>
    cases y with
    | true =>
      have hab := k4 rfl
      rw [decide_eq_false hab] at e1 e2 e3
      rw [Bool.not_false] at e2
      refine awp_draw (.q 0 (.q 1 (.q 2 (.q 3 (.q 4 (.q 5 (.q 6 (.q 7 (.q 8 (.q 9 (.q 10 (.q 11 (.q 12 (.q 13 (.q 14 (.q 15 (.q 16 (.q 17 (.q 18 (.q 19 (.q 20 (.q 21 (.q 22 (.q 23 (.q 24 (.q 25 (.q 26 (.q 27 (.a 28 (.q 29 (.q 30 (.q 31 (.q 32 (.q 34 (.q 37 (.q 38 (.q 39 (.a 33 (.a 35 (.q 36 (.q 40 (.q 41 (.q 42 (.done)))))))))))))))))))))))))))))))))))))))))))) (by kernel_rfl) (by kernel_rfl) (tree_start (goesT_eq (by simp -implicitDefEqProofs (disch := (first | omega | (simp; done) | fail)) [if_pos, if_neg, wrap_i64, tmod_pos, tdiv_pos, Int.toNat_add, e1, e2, e3]; rfl) ?_))
      refine zP (callable_of Tryd.func13) _ (c5 _) ?_
      rintro _ _ ⟨rfl, rfl⟩
      refine goesT_eq (by simp -implicitDefEqProofs (disch := (first | omega | (simp; done) | fail)) [if_pos, if_neg, wrap_i64, tmod_pos, tdiv_pos, Int.toNat_add, e1, e2, e3]; rfl) ?_
      refine zP (callable_of Tryd.func13) _ (c6 _) ?_
      rintro _ _ ⟨rfl, rfl⟩
      refine goesT_eq (by simp -implicitDefEqProofs (disch := (first | omega | (simp; done) | fail)) [if_pos, if_neg, wrap_i64, tmod_pos, tdiv_pos, Int.toNat_add, e1, e2, e3]; rfl) ?_
      refine goesT_done ?_
      (try simp only [vq, if_true, reduceIte, Nat.reduceEqDiff, reduceCtorEq])
      repeat (first | ((first | refine zd ?_ | refine zx ?_ | refine zk ?_ | refine zl ?_ | refine zr ?_); refine zq ?_) | refine zs ?_ | refine zg ?_ | refine zb ?_ | refine zo ?_ | refine zt ?_ | refine zf ?_)
      first | refine zy (.inr rfl) ?_ | refine zy (.inl rfl) ?_
      simp
    | false =>
      have hab := k5 rfl rfl
      rw [decide_eq_true hab] at e1 e2 e3
      rw [Bool.not_true] at e2
      refine awp_draw (.q 0 (.q 1 (.q 2 (.q 3 (.q 4 (.q 5 (.q 6 (.q 7 (.q 8 (.q 9 (.q 10 (.q 11 (.q 12 (.q 13 (.q 14 (.q 15 (.q 16 (.q 17 (.q 18 (.q 19 (.q 20 (.q 21 (.q 22 (.q 23 (.q 24 (.q 25 (.q 26 (.q 27 (.a 28 (.q 29 (.q 30 (.q 31 (.q 32 (.q 34 (.q 37 (.q 38 (.q 39 (.a 33 (.a 35 (.q 36 (.q 40 (.q 41 (.q 42 (.done)))))))))))))))))))))))))))))))))))))))))))) (by kernel_rfl) (by kernel_rfl) (tree_start (goesT_eq (by simp -implicitDefEqProofs (disch := (first | omega | (simp; done) | fail)) [if_pos, if_neg, wrap_i64, tmod_pos, tdiv_pos, Int.toNat_add, e1, e2, e3]; rfl) ?_))
      refine zP (callable_of Tryd.func13) _ (c5 _) ?_
      rintro _ _ ⟨rfl, rfl⟩
      refine goesT_eq (by simp -implicitDefEqProofs (disch := (first | omega | (simp; done) | fail)) [if_pos, if_neg, wrap_i64, tmod_pos, tdiv_pos, Int.toNat_add, e1, e2, e3]; rfl) ?_
      refine zP (callable_of Tryd.func13) _ (c6 _) ?_
      rintro _ _ ⟨rfl, rfl⟩
      refine goesT_eq (by simp -implicitDefEqProofs (disch := (first | omega | (simp; done) | fail)) [if_pos, if_neg, wrap_i64, tmod_pos, tdiv_pos, Int.toNat_add, e1, e2, e3]; rfl) ?_
      refine goesT_done ?_
      (try simp only [vq, if_true, reduceIte, Nat.reduceEqDiff, reduceCtorEq])
      repeat (first | ((first | refine zd ?_ | refine zx ?_ | refine zk ?_ | refine zl ?_ | refine zr ?_); refine zq ?_) | refine zs ?_ | refine zg ?_ | refine zb ?_ | refine zo ?_ | refine zt ?_ | refine zf ?_)
      first | refine zy (.inr rfl) ?_ | refine zy (.inl rfl) ?_
      simp
theorem fit_of {x : Iid} (h : (Lit.int .i64 x.e).wf = true ∧ (Lit.int .i64 x.n).wf = true ∧ (Lit.int .i64 x.o).wf = true) : Fit x := by
  have e1 : IntKind.i64.min = -9223372036854775808 := rfl
  have e2 : IntKind.i64.max = 9223372036854775807 := rfl
  simp [Lit.wf, e1, e2] at h
  exact ⟨h.1.1, h.1.2, h.2.1.1, h.2.1.2, h.2.2.1, h.2.2.2⟩
theorem walk_IdsTells {w : World} (x0 : Came) (f0 : IdAt w x0.v) (x1 : Came) (f1 : IdAt w x1.v) (x2 : Came) (f2 : IdsAt w x2.v) (hT : Lib.TabIs Tryd.prog w "internal/strconv.uint64pow10" .u64 Lib.pow10Tab) :
    Calls Tryd.prog 3 #[x0.v, x1.v, x2.v] w fun e w' => e = .returned (.bool true) ∧ Below w.heap.size w w' := by
  obtain ⟨a, ha, fa⟩ := f0
  obtain ⟨b, hb, -⟩ := f1
  obtain ⟨l, hl⟩ := f2
  exact law_tab (fun h ht => tells a b l (fit_of fa) h ht) w hT (vals_of (cells_cons ha (cells_cons hb (cells_cons hl (cells_nil _)))))
theorem walk_IdsOrder {w : World} (x0 : Came) (f0 : IdAt w x0.v) (x1 : Came) (f1 : IdAt w x1.v) (x2 : Came) (f2 : IdAt w x2.v) (hT : Lib.TabIs Tryd.prog w "internal/strconv.uint64pow10" .u64 Lib.pow10Tab) :
    Calls Tryd.prog 6 #[x0.v, x1.v, x2.v] w fun e w' => e = .returned (.bool true) ∧ Below w.heap.size w w' := by
  obtain ⟨a, ha, fa⟩ := f0
  obtain ⟨b, hb, fb⟩ := f1
  obtain ⟨c, hc, -⟩ := f2
  exact law_tab (fun h ht => order a b c (fit_of fa) (fit_of fb) h ht) w hT (vals_of (cells_cons ha (cells_cons hb (cells_cons hc (cells_nil _)))))
end Go.Proofs.YtcppoojgekaaoaaDoor.I
