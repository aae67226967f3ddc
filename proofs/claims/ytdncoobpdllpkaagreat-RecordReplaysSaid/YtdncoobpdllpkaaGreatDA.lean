import Derived.Test.YtdncoobpdllpkaaGreatNA
import Derived.Test.YtdncoobpdllpkaaGreatV27
import Derived.Test.YtdncoobpdllpkaaGreatV28
/- Messages as bytes: what is written, as tokens; the writer. -/
set_option linter.unusedVariables false
set_option linter.unusedSimpArgs false
set_option maxRecDepth 20000
namespace Go.Proofs.YtdncoobpdllpkaaGreat.D
open Go Go.Proofs.YtdncoobpdllpkaaGreat.V Go.Proofs.YtdncoobpdllpkaaGreat.N
abbrev iv (n : Int) : AV := .int .i64 n
/-- What is written one by one. -/
inductive Tk where
  | num (n : Int)
  | text (s : List UInt8)
  | size (n : Nat)
def nbI (n : Int) : List UInt8 := if canB n then nb n.toNat else []
def Tk.by : Tk → List UInt8
  | .num n => nbI n
  | .text s => nb s.length ++ s
  | .size n => nb n
def Tk.bad : Tk → Bool
  | .num n => !canB n
  | .text s => decide ((4096 : Int) < (s.length : Int))
  | .size n => decide ((1024 : Int) < (n : Int))
def flat (ts : List Tk) : List UInt8 := ts.flatMap Tk.by
def bads (ts : List Tk) : Bool := ts.any Tk.bad
@[simp] theorem flat_nil : flat [] = [] := rfl
@[simp] theorem flat_cons (t : Tk) (ts : List Tk) : flat (t :: ts) = t.by ++ flat ts := rfl
@[simp] theorem flat_app (a b : List Tk) : flat (a ++ b) = flat a ++ flat b := by simp [flat]
@[simp] theorem bads_nil : bads [] = false := rfl
@[simp] theorem bads_cons (t : Tk) (ts : List Tk) : bads (t :: ts) = (t.bad || bads ts) := rfl
@[simp] theorem bads_app (a b : List Tk) : bads (a ++ b) = (bads a || bads b) := by simp [bads]
theorem canB_nat {n : Int} (h : canB n = true) : ∃ m : Nat, n = m ∧ m ≤ 281474976710656 := by
  simp [canB] at h
  exact ⟨n.toNat, by omega, by omega⟩
theorem canB_of {m : Nat} (h : m ≤ 281474976710656) : canB (m : Int) = true := by simp [canB]; omega
theorem nbI_nat {m : Nat} (h : m ≤ 281474976710656) : nbI (m : Int) = nb m := by simp [nbI, canB_of h]
theorem wany_ok (n : Int) (h : AHeap) (F : Nat → Prop) (id : Nat) (l : List UInt8) (sp : Bool) (hw : Wr h F id l sp) (hl : l.length ≤ 100000000) :
    ACalls Tryz.prog 53 [.ptr id 0, .int .i64 n] h fun r h' => r = .ptr id 0 ∧ ∃ F', Wr h' F' id (l ++ nbI n) (sp || !canB n) ∧ Kept h F h' F' := by
  by_cases hc : canB n = true
  · obtain ⟨m, rfl, hm⟩ := canB_nat hc
    simp only [hc, nbI, if_true, Bool.not_true, Bool.or_false, Int.toNat_natCast]
    exact wnum_ok m hm h F id l sp hw hl
  · have hc : canB n = false := by simpa using hc
    simp only [hc, nbI, Bool.not_false, Bool.or_true, List.append_nil, Bool.false_eq_true, if_false]
    exact wbad_ok n hc h F id l sp hw
/-- A writer of fields, with its parts: its object, and the number writer's. -/
structure Wp (h : AHeap) (F : Nat → Prop) (wid nid : Nat) (l : List UInt8) (sp bd : Bool) (G : Nat → Prop) : Prop where
  at_ : h[wid]? = some (.cells [.ptr nid 0, .bool bd])
  fw : F wid
  ng : ¬ G wid
  sub : ∀ k, G k → F k
  lt : ∀ k, F k → k < h.length
  wr : Wr h G nid l sp
def Wd (h : AHeap) (F : Nat → Prop) (wid : Nat) (l : List UInt8) (b : Bool) : Prop := ∃ nid sp bd G, b = (sp || bd) ∧ Wp h F wid nid l sp bd G
def wv (wid : Nat) : AV := .iface 92 (.ptr wid 0)
theorem Wp.after {h h' : AHeap} {F G G' : Nat → Prop} {wid nid : Nat} {l l' : List UInt8} {sp bd sp' : Bool} (w : Wp h F wid nid l sp bd G) (w' : Wr h' G' nid l' sp') (k : Kept h G h' G') :
    Wp h' (fun i => F i ∨ G' i) wid nid l' sp' bd G' ∧ Kept h F h' (fun i => F i ∨ G' i) := by
  have hl := w.lt wid w.fw
  refine ⟨⟨by rw [k.2.1 wid hl w.ng]; exact w.at_, .inl w.fw, fun hg => ?_, fun i hi => .inr hi, fun i hi => ?_, w'⟩, k.1, fun i hi hn => k.2.1 i hi fun hg => hn (w.sub i hg), fun i hi => ?_⟩
  · rcases k.2.2 wid hg with h1 | h1
    · exact w.ng h1
    · omega
  · rcases hi with hi | hi
    · exact Nat.lt_of_lt_of_le (w.lt i hi) k.1
    · exact w'.1 i hi
  · rcases hi with hi | hi
    · exact .inl hi
    · exact (k.2.2 i hi).imp_left (w.sub i)
theorem Wp.set {h : AHeap} {F G : Nat → Prop} {wid nid : Nat} {l : List UInt8} {sp bd : Bool} (w : Wp h F wid nid l sp bd G) (bd' : Bool) :
    Wp (h.set wid (.cells [.ptr nid 0, .bool bd'])) F wid nid l sp bd' G ∧ Kept h F (h.set wid (.cells [.ptr nid 0, .bool bd'])) F := by
  have hl := w.lt wid w.fw
  have ho : ∀ i, G i → (h.set wid (.cells [.ptr nid 0, .bool bd']))[i]? = h[i]? := fun i hi => List.getElem?_set_ne fun e => w.ng (by rw [e]; exact hi)
  obtain ⟨w1, w2, t, w3, w4⟩ := w.wr
  refine ⟨⟨List.getElem?_set_self hl, w.fw, w.ng, w.sub, fun i hi => by simpa using w.lt i hi, fun i hi => by simpa using w1 i hi, w2, t, by rw [ho nid w2]; exact w3, ?_⟩, by simp, fun i hi hn => List.getElem?_set_ne fun e => hn (by rw [← e]; exact w.fw), fun i hi => .inl hi⟩
  rcases w4 with w4 | ⟨j, e, h1, h2, h3⟩
  · exact .inl w4
  · exact .inr ⟨j, e, h1, h2, by rw [ho j h2]; exact h3⟩
/-- A function of fields writes these. -/
def Writes (f : FuncId) (args : List AV) (ts : List Tk) : Prop :=
  ∀ (h : AHeap) (F : Nat → Prop) (wid : Nat) (l : List UInt8) (b : Bool), Wd h F wid l b → (l ++ flat ts).length ≤ 100000000 →
    ACalls Tryz.prog f (wv wid :: args) h fun r h' => r = .tuple [] ∧ ∃ F', Wd h' F' wid (l ++ flat ts) (b || bads ts) ∧ Kept h F h' F'
def WritesM (f : FuncId) (args : List AV) (ts : List Tk) (r0 : AV) : Prop :=
  ∀ (h : AHeap) (F : Nat → Prop) (wid : Nat) (l : List UInt8) (b : Bool), Wd h F wid l b → (l ++ flat ts).length ≤ 100000000 →
    ACalls Tryz.prog f (.ptr wid 0 :: args) h fun r h' => r = r0 ∧ ∃ F', Wd h' F' wid (l ++ flat ts) (b || bads ts) ∧ Kept h F h' F'
theorem mnum_ok (cs : List AV) (off : Nat) (n : Int) (hc : cs[off]? = some (.int .i64 n)) : WritesM 33 [.ref cs off] [.num n] (.tuple []) := by
  rintro h F wid l b ⟨nid, sp, bd, G, rfl, w⟩ hl
  have hw := w.at_
  have hll : l.length ≤ 100000000 := by simp at hl; omega
  refine acalls_of_awp Tryz.func33 rfl (by simp only [List.length_cons, List.length_nil]; decide) ?_
  simp only [params_cons, params_nil]
  refine awp_draw (.q 0 (.q 1 (.q 2 (.q 4 (.q 5 (.two 3 6 (.a 6 (.a 7 (.done))) (.a 3 (.a 7 (.done))))))))) (by kernel_rfl) (by kernel_rfl) (tree_start (goesT_eq (by simp -implicitDefEqProofs (disch := (first | omega | (simp; done) | fail)) [if_pos, if_neg, wrap_i64, tmod_pos, tdiv_pos, Int.toNat_add, hw, hc]; rfl) ?_))
  refine goesT_two (goesT_eq (by simp -implicitDefEqProofs (disch := (first | omega | (simp; done) | fail)) [if_pos, if_neg, wrap_i64, tmod_pos, tdiv_pos, Int.toNat_add, hw, hc]; rfl) ?_) (goesT_eq (by simp -implicitDefEqProofs (disch := (first | omega | (simp; done) | fail)) [if_pos, if_neg, wrap_i64, tmod_pos, tdiv_pos, Int.toNat_add, hw, hc]; rfl) ?_)
  · refine goesT_callS (callable_of Tryz.func53) (by simp -implicitDefEqProofs (disch := (first | omega | (simp; done) | fail)) [if_pos, if_neg, wrap_i64, tmod_pos, tdiv_pos, Int.toNat_add] <;> first | rfl | omega) _ (wany_ok n _ G nid l sp w.wr hll) ?_
    rintro _ h1 ⟨rfl, G', w', k⟩
    obtain ⟨w2, k2⟩ := w.after w' k
    have hkl := k.1
    refine zE ?_
    refine goesT_done ?_
    (try simp only [vq, if_true, reduceIte, Nat.reduceEqDiff, reduceCtorEq])
    first | refine body_all (.inr rfl) (by simp -implicitDefEqProofs; rfl) (by simp -implicitDefEqProofs; rfl) (by first | (simp; done) | (simp; omega) | omega) ?_ | refine body_all (.inl rfl) (by simp -implicitDefEqProofs; rfl) (by simp -implicitDefEqProofs; rfl) (by first | (simp; done) | (simp; omega) | omega) ?_
    exact ⟨rfl, _, ⟨nid, sp || !canB n, bd, G', by simp [Tk.bad]; cases sp <;> cases bd <;> simp, by simpa [Tk.by] using w2⟩, k2⟩
  · refine goesT_callS (callable_of Tryz.func53) (by simp -implicitDefEqProofs (disch := (first | omega | (simp; done) | fail)) [if_pos, if_neg, wrap_i64, tmod_pos, tdiv_pos, Int.toNat_add] <;> first | rfl | omega) _ (wany_ok n _ G nid l sp w.wr hll) ?_
    rintro _ h1 ⟨rfl, G', w', k⟩
    obtain ⟨w2, k2⟩ := w.after w' k
    have hkl := k.1
    refine zE ?_
    refine goesT_done ?_
    (try simp only [vq, if_true, reduceIte, Nat.reduceEqDiff, reduceCtorEq])
    first | refine body_all (.inr rfl) (by simp -implicitDefEqProofs; rfl) (by simp -implicitDefEqProofs; rfl) (by first | (simp; done) | (simp; omega) | omega) ?_ | refine body_all (.inl rfl) (by simp -implicitDefEqProofs; rfl) (by simp -implicitDefEqProofs; rfl) (by first | (simp; done) | (simp; omega) | omega) ?_
    exact ⟨rfl, _, ⟨nid, sp || !canB n, bd, G', by simp [Tk.bad]; cases sp <;> cases bd <;> simp, by simpa [Tk.by] using w2⟩, k2⟩
end Go.Proofs.YtdncoobpdllpkaaGreat.D

/- Messages as bytes: the writer's other methods; numbers of other types; small things. -/
set_option linter.unusedVariables false
set_option linter.unusedSimpArgs false
set_option maxRecDepth 20000
namespace Go.Proofs.YtdncoobpdllpkaaGreat.D
open Go Go.Proofs.YtdncoobpdllpkaaGreat.V Go.Proofs.YtdncoobpdllpkaaGreat.N
theorem Wd.app {h : AHeap} {F : Nat → Prop} {wid : Nat} {l : List UInt8} {b : Bool} (w : Wd h F wid l b) (x : AHeap) : Wd (h ++ x) F wid l b := by
  obtain ⟨nid, sp, bd, G, hb, w1, w2, w3, w4, w5, w6, w7, t, w8, w9⟩ := w
  have hg : ∀ i, i < h.length → (h ++ x)[i]? = h[i]? := fun i hi => List.getElem?_append_left hi
  refine ⟨nid, sp, bd, G, hb, by rw [hg wid (w5 wid w2)]; exact w1, w2, w3, w4, fun k hk => by have := w5 k hk; simp; omega, fun k hk => by have := w6 k hk; simp; omega, w7, t, by rw [hg nid (w6 nid w7)]; exact w8, ?_⟩
  rcases w9 with w9 | ⟨j, e, h1, h2, h3⟩
  · exact .inl w9
  · exact .inr ⟨j, e, h1, h2, by rw [hg j (w6 j h2)]; exact h3⟩
theorem Kept.ofApp {h x h' : AHeap} {F F' : Nat → Prop} (k : Kept (h ++ x) F h' F') : Kept h F h' F' :=
  ⟨by have := k.1; simp at this; omega, fun i hi hn => by rw [k.2.1 i (by simp; omega) hn]; exact List.getElem?_append_left hi, fun i hi => (k.2.2 i hi).imp_right fun h => by simp at h; omega⟩
theorem mtext_ok (cs : List AV) (off : Nat) (s : List UInt8) (hc : cs[off]? = some (.str s)) : WritesM 135 [.ref cs off] [.text s] (.tuple []) := by
  rintro h F wid l b ⟨nid, sp, bd, G, rfl, w⟩ hl
  have hw := w.at_
  have hll : l.length ≤ 100000000 := by simp at hl; omega
  have hs : s.length ≤ 100000000 := by simp [Tk.by] at hl; omega
  obtain ⟨w2, k2⟩ := w.set (bd || decide ((4096 : Int) < (s.length : Int)))
  have hset : (h.set wid (.cells [.ptr nid 0, .bool (bd || decide ((4096 : Int) < (s.length : Int)))]))[wid]? = some (.cells [.ptr nid 0, .bool (bd || decide ((4096 : Int) < (s.length : Int)))]) := w2.at_
  refine acalls_of_awp Tryz.func135 rfl (by simp only [List.length_cons, List.length_nil]; decide) ?_
  simp only [params_cons, params_nil]
  cases bd with
  | true =>
    simp only [Bool.true_or] at w2 k2 hset ⊢
    repeat (first | ((first | refine zd ?_ | refine zx ?_ | refine zk ?_ | refine zl ?_ | refine zr ?_); refine zq ?_) | refine zs ?_ | refine zh (by simp -implicitDefEqProofs (disch := (first | omega | (simp; done) | fail)) [if_pos, if_neg, wrap_i64, tmod_pos, tdiv_pos, Int.toNat_add, hw, hc]; rfl) ?_ | refine zb ?_ | refine zo ?_ | refine zt ?_ | refine zf ?_)
    refine awp_draw (.q 0 (.q 1 (.q 2 (.q 4 (.q 5 (.two 3 6 (.a 6 (.a 7 (.done))) (.a 3 (.a 7 (.done))))))))) (by kernel_rfl) (by kernel_rfl) (tree_start (goesT_eq (by simp -implicitDefEqProofs (disch := (first | omega | (simp; done) | fail)) [if_pos, if_neg, wrap_i64, tmod_pos, tdiv_pos, Int.toNat_add, hw, hc, hset]; rfl) ?_))
    refine goesT_two (goesT_eq (by simp -implicitDefEqProofs (disch := (first | omega | (simp; done) | fail)) [if_pos, if_neg, wrap_i64, tmod_pos, tdiv_pos, Int.toNat_add, hw, hc, hset]; rfl) ?_) (goesT_eq (by simp -implicitDefEqProofs (disch := (first | omega | (simp; done) | fail)) [if_pos, if_neg, wrap_i64, tmod_pos, tdiv_pos, Int.toNat_add, hw, hc, hset]; rfl) ?_)
    · refine goesT_callS (callable_of Tryz.func136) (by simp -implicitDefEqProofs (disch := (first | omega | (simp; done) | fail)) [if_pos, if_neg, wrap_i64, tmod_pos, tdiv_pos, Int.toNat_add] <;> first | rfl | omega) _ (wtext_ok s hs _ G nid l sp w2.wr hll) ?_
      rintro _ h2 ⟨rfl, G', w', k⟩
      obtain ⟨w3, k3⟩ := w2.after w' k
      have hkl := k.1
      simp only [List.length_set] at hkl
      refine zE ?_
      refine goesT_done ?_
      (try simp only [vq, if_true, reduceIte, Nat.reduceEqDiff, reduceCtorEq])
      first | refine body_all (.inr rfl) (by simp -implicitDefEqProofs; rfl) (by simp -implicitDefEqProofs; rfl) (by first | (simp; done) | (simp; omega) | omega) ?_ | refine body_all (.inl rfl) (by simp -implicitDefEqProofs; rfl) (by simp -implicitDefEqProofs; rfl) (by first | (simp; done) | (simp; omega) | omega) ?_
      exact ⟨rfl, _, ⟨nid, sp, true, G', by simp [Tk.bad, Bool.or_assoc], by simpa [Tk.by] using w3⟩, k2.trans k3⟩
    · refine goesT_callS (callable_of Tryz.func136) (by simp -implicitDefEqProofs (disch := (first | omega | (simp; done) | fail)) [if_pos, if_neg, wrap_i64, tmod_pos, tdiv_pos, Int.toNat_add] <;> first | rfl | omega) _ (wtext_ok s hs _ G nid l sp w2.wr hll) ?_
      rintro _ h2 ⟨rfl, G', w', k⟩
      obtain ⟨w3, k3⟩ := w2.after w' k
      have hkl := k.1
      simp only [List.length_set] at hkl
      refine zE ?_
      refine goesT_done ?_
      (try simp only [vq, if_true, reduceIte, Nat.reduceEqDiff, reduceCtorEq])
      first | refine body_all (.inr rfl) (by simp -implicitDefEqProofs; rfl) (by simp -implicitDefEqProofs; rfl) (by first | (simp; done) | (simp; omega) | omega) ?_ | refine body_all (.inl rfl) (by simp -implicitDefEqProofs; rfl) (by simp -implicitDefEqProofs; rfl) (by first | (simp; done) | (simp; omega) | omega) ?_
      exact ⟨rfl, _, ⟨nid, sp, true, G', by simp [Tk.bad, Bool.or_assoc], by simpa [Tk.by] using w3⟩, k2.trans k3⟩
  | false =>
    simp only [Bool.false_or] at w2 k2 hset ⊢
    repeat (first | ((first | refine zd ?_ | refine zx ?_ | refine zk ?_ | refine zl ?_ | refine zr ?_); refine zq ?_) | refine zs ?_ | refine zh (by simp -implicitDefEqProofs (disch := (first | omega | (simp; done) | fail)) [if_pos, if_neg, wrap_i64, tmod_pos, tdiv_pos, Int.toNat_add, hw, hc]; rfl) ?_ | refine zb ?_ | refine zo ?_ | refine zt ?_ | refine zf ?_)
    refine awp_draw (.q 0 (.q 1 (.q 2 (.q 4 (.q 5 (.two 3 6 (.a 6 (.a 7 (.done))) (.a 3 (.a 7 (.done))))))))) (by kernel_rfl) (by kernel_rfl) (tree_start (goesT_eq (by simp -implicitDefEqProofs (disch := (first | omega | (simp; done) | fail)) [if_pos, if_neg, wrap_i64, tmod_pos, tdiv_pos, Int.toNat_add, hw, hc, hset]; rfl) ?_))
    refine goesT_two (goesT_eq (by simp -implicitDefEqProofs (disch := (first | omega | (simp; done) | fail)) [if_pos, if_neg, wrap_i64, tmod_pos, tdiv_pos, Int.toNat_add, hw, hc, hset]; rfl) ?_) (goesT_eq (by simp -implicitDefEqProofs (disch := (first | omega | (simp; done) | fail)) [if_pos, if_neg, wrap_i64, tmod_pos, tdiv_pos, Int.toNat_add, hw, hc, hset]; rfl) ?_)
    · refine goesT_callS (callable_of Tryz.func136) (by simp -implicitDefEqProofs (disch := (first | omega | (simp; done) | fail)) [if_pos, if_neg, wrap_i64, tmod_pos, tdiv_pos, Int.toNat_add] <;> first | rfl | omega) _ (wtext_ok s hs _ G nid l sp w2.wr hll) ?_
      rintro _ h2 ⟨rfl, G', w', k⟩
      obtain ⟨w3, k3⟩ := w2.after w' k
      have hkl := k.1
      simp only [List.length_set] at hkl
      refine zE ?_
      refine goesT_done ?_
      (try simp only [vq, if_true, reduceIte, Nat.reduceEqDiff, reduceCtorEq])
      first | refine body_all (.inr rfl) (by simp -implicitDefEqProofs; rfl) (by simp -implicitDefEqProofs; rfl) (by first | (simp; done) | (simp; omega) | omega) ?_ | refine body_all (.inl rfl) (by simp -implicitDefEqProofs; rfl) (by simp -implicitDefEqProofs; rfl) (by first | (simp; done) | (simp; omega) | omega) ?_
      exact ⟨rfl, _, ⟨nid, sp, decide ((4096 : Int) < (s.length : Int)), G', by simp [Tk.bad, Bool.or_assoc], by simpa [Tk.by] using w3⟩, k2.trans k3⟩
    · refine goesT_callS (callable_of Tryz.func136) (by simp -implicitDefEqProofs (disch := (first | omega | (simp; done) | fail)) [if_pos, if_neg, wrap_i64, tmod_pos, tdiv_pos, Int.toNat_add] <;> first | rfl | omega) _ (wtext_ok s hs _ G nid l sp w2.wr hll) ?_
      rintro _ h2 ⟨rfl, G', w', k⟩
      obtain ⟨w3, k3⟩ := w2.after w' k
      have hkl := k.1
      simp only [List.length_set] at hkl
      refine zE ?_
      refine goesT_done ?_
      (try simp only [vq, if_true, reduceIte, Nat.reduceEqDiff, reduceCtorEq])
      first | refine body_all (.inr rfl) (by simp -implicitDefEqProofs; rfl) (by simp -implicitDefEqProofs; rfl) (by first | (simp; done) | (simp; omega) | omega) ?_ | refine body_all (.inl rfl) (by simp -implicitDefEqProofs; rfl) (by simp -implicitDefEqProofs; rfl) (by first | (simp; done) | (simp; omega) | omega) ?_
      exact ⟨rfl, _, ⟨nid, sp, decide ((4096 : Int) < (s.length : Int)), G', by simp [Tk.bad, Bool.or_assoc], by simpa [Tk.by] using w3⟩, k2.trans k3⟩
theorem msize_ok (n : Nat) (hn : n ≤ 281474976710656) : WritesM 134 [.int .i64 n] [.size n] (.int .i64 n) := by
  rintro h F wid l b ⟨nid, sp, bd, G, rfl, w⟩ hl
  have hw := w.at_
  have hll : l.length ≤ 100000000 := by simp at hl; omega
  obtain ⟨w2, k2⟩ := w.set (bd || decide ((1024 : Int) < (n : Int)))
  have hset : (h.set wid (.cells [.ptr nid 0, .bool (bd || decide ((1024 : Int) < (n : Int)))]))[wid]? = some (.cells [.ptr nid 0, .bool (bd || decide ((1024 : Int) < (n : Int)))]) := w2.at_
  refine acalls_of_awp Tryz.func134 rfl (by simp only [List.length_cons, List.length_nil]; decide) ?_
  simp only [params_cons, params_nil]
  cases bd with
  | true =>
    simp only [Bool.true_or] at w2 k2 hset ⊢
    repeat (first | ((first | refine zd ?_ | refine zx ?_ | refine zk ?_ | refine zl ?_ | refine zr ?_); refine zq ?_) | refine zs ?_ | refine zh (by simp -implicitDefEqProofs (disch := (first | omega | (simp; done) | fail)) [if_pos, if_neg, wrap_i64, tmod_pos, tdiv_pos, Int.toNat_add, hw, hset]; rfl) ?_ | refine zb ?_ | refine zo ?_ | refine zt ?_ | refine zf ?_)
    refine goes_callS (callable_of Tryz.func53) (by simp -implicitDefEqProofs (disch := (first | omega | (simp; done) | fail)) [if_pos, if_neg, wrap_i64, tmod_pos, tdiv_pos, Int.toNat_add] <;> first | rfl | omega) _ (wnum_ok n hn _ G nid l sp w2.wr hll) ?_
    rintro _ h2 ⟨rfl, G', w', k⟩
    obtain ⟨w3, k3⟩ := w2.after w' k
    have hkl := k.1
    simp only [List.length_set] at hkl
    refine ze ?_
    repeat (first | ((first | refine zd ?_ | refine zx ?_ | refine zk ?_ | refine zl ?_ | refine zr ?_); refine zq ?_) | refine zs ?_ | refine zg ?_ | refine zb ?_ | refine zo ?_ | refine zt ?_ | refine zf ?_)
    first | refine body_all (.inr rfl) (by simp -implicitDefEqProofs; rfl) (by simp -implicitDefEqProofs; rfl) (by first | (simp; done) | (simp; omega) | omega) ?_ | refine body_all (.inl rfl) (by simp -implicitDefEqProofs; rfl) (by simp -implicitDefEqProofs; rfl) (by first | (simp; done) | (simp; omega) | omega) ?_
    exact ⟨rfl, _, ⟨nid, sp, true, G', by simp [Tk.bad], by simpa [Tk.by] using w3⟩, k2.trans k3⟩
  | false =>
    simp only [Bool.false_or] at w2 k2 hset ⊢
    repeat (first | ((first | refine zd ?_ | refine zx ?_ | refine zk ?_ | refine zl ?_ | refine zr ?_); refine zq ?_) | refine zs ?_ | refine zh (by simp -implicitDefEqProofs (disch := (first | omega | (simp; done) | fail)) [if_pos, if_neg, wrap_i64, tmod_pos, tdiv_pos, Int.toNat_add, hw, hset]; rfl) ?_ | refine zb ?_ | refine zo ?_ | refine zt ?_ | refine zf ?_)
    refine goes_callS (callable_of Tryz.func53) (by simp -implicitDefEqProofs (disch := (first | omega | (simp; done) | fail)) [if_pos, if_neg, wrap_i64, tmod_pos, tdiv_pos, Int.toNat_add] <;> first | rfl | omega) _ (wnum_ok n hn _ G nid l sp w2.wr hll) ?_
    rintro _ h2 ⟨rfl, G', w', k⟩
    obtain ⟨w3, k3⟩ := w2.after w' k
    have hkl := k.1
    simp only [List.length_set] at hkl
    refine ze ?_
    repeat (first | ((first | refine zd ?_ | refine zx ?_ | refine zk ?_ | refine zl ?_ | refine zr ?_); refine zq ?_) | refine zs ?_ | refine zg ?_ | refine zb ?_ | refine zo ?_ | refine zt ?_ | refine zf ?_)
    first | refine body_all (.inr rfl) (by simp -implicitDefEqProofs; rfl) (by simp -implicitDefEqProofs; rfl) (by first | (simp; done) | (simp; omega) | omega) ?_ | refine body_all (.inl rfl) (by simp -implicitDefEqProofs; rfl) (by simp -implicitDefEqProofs; rfl) (by first | (simp; done) | (simp; omega) | omega) ?_
    exact ⟨rfl, _, ⟨nid, sp, decide ((1024 : Int) < (n : Int)), G', by simp [Tk.bad], by simpa [Tk.by] using w3⟩, k2.trans k3⟩
theorem asStatus_ok (cs : List AV) (off : Nat) (hs : cs.map AV.strip = cs) (n : Int) (hc : cs[off]? = some (.int .i64 n)) : Writes 75 [.ref cs off] [.num n] := by
      rintro h F wid l b hw hl
      have k := Kept.refl h F
      unfold wv
      refine acalls_of_awp Tryz.func75 rfl (by simp only [List.length_cons, List.length_nil]; decide) ?_
      simp only [params_cons, params_nil]
      refine awp_seq ?_
      refine zh (by simp -implicitDefEqProofs (disch := (first | omega | (simp; done) | fail)) [if_pos, if_neg, wrap_i64, tmod_pos, tdiv_pos, Int.toNat_add, hc]; rfl) ?_
      refine goes_done ?_
      (try simp only [vq, if_true, reduceIte, Nat.reduceEqDiff, reduceCtorEq])
      refine awp_hard (id := h.length) (by simp -implicitDefEqProofs; rfl) ?_
      simp -implicitDefEqProofs only [Slots.melt, AV.melt, Nat.add_left_cancel_iff, Nat.add_eq_left, Nat.left_eq_add, Nat.reduceEqDiff, reduceIte, Nat.succ_ne_self, Nat.one_ne_zero, Nat.zero_ne_one, List.set_append_right, List.set_append_left, Nat.sub_self, Nat.le_refl, Nat.add_sub_cancel_left, Nat.le_add_right, List.set_cons_zero, List.set_cons_succ]
      repeat (first | ((first | refine zd ?_ | refine zx ?_ | refine zk ?_ | refine zl ?_ | refine zr ?_); refine zq ?_) | refine zs ?_ | refine zh (by simp -implicitDefEqProofs (disch := (first | omega | (simp; done) | fail)) [if_pos, if_neg, wrap_i64, tmod_pos, tdiv_pos, Int.toNat_add, hc]; rfl) ?_ | refine zb ?_ | refine zo ?_ | refine zt ?_ | refine zf ?_)
      have hw := hw.app [.dead]
      have k := Kept.refl (h ++ [.dead]) F
      refine goes_callS (callable_of Tryz.func33) (by simp -implicitDefEqProofs (disch := (first | omega | (simp; done) | fail)) [if_pos, if_neg, wrap_i64, tmod_pos, tdiv_pos, Int.toNat_add, wv, hs] <;> first | rfl | omega) _ (mnum_ok [.int .i64 n] 0 n rfl _ _ wid _ _ hw (by simp at hl ⊢; omega)) ?_
      rintro _ h' ⟨rfl, F', hw', k'⟩
      replace k := k.trans k'
      clear hw k'
      have hw := hw'
      clear hw'
      refine ze ?_
      repeat (first | ((first | refine zd ?_ | refine zx ?_ | refine zk ?_ | refine zl ?_ | refine zr ?_); refine zq ?_) | refine zs ?_ | refine zh (by simp -implicitDefEqProofs (disch := (first | omega | (simp; done) | fail)) [if_pos, if_neg, wrap_i64, tmod_pos, tdiv_pos, Int.toNat_add, hc]; rfl) ?_ | refine zb ?_ | refine zo ?_ | refine zt ?_ | refine zf ?_)
      have k := Kept.ofApp k
      have hkl := k.1
      first | refine body_all (.inr rfl) (by simp -implicitDefEqProofs; rfl) (by simp -implicitDefEqProofs; rfl) (by first | (simp; done) | (simp; omega) | omega) ?_ | refine body_all (.inl rfl) (by simp -implicitDefEqProofs; rfl) (by simp -implicitDefEqProofs; rfl) (by first | (simp; done) | (simp; omega) | omega) ?_
      exact ⟨rfl, _, by simpa [Bool.or_assoc, List.append_assoc] using hw, k⟩
theorem asOp_ok (cs : List AV) (off : Nat) (hs : cs.map AV.strip = cs) (n : Int) (hc : cs[off]? = some (.int .i64 n)) : Writes 88 [.ref cs off] [.num n] := by
  rintro h F wid l b hw hl
  have k := Kept.refl h F
  unfold wv
  refine acalls_of_awp Tryz.func88 rfl (by simp only [List.length_cons, List.length_nil]; decide) ?_
  simp only [params_cons, params_nil]
  refine awp_seq ?_
  refine zh (by simp -implicitDefEqProofs (disch := (first | omega | (simp; done) | fail)) [if_pos, if_neg, wrap_i64, tmod_pos, tdiv_pos, Int.toNat_add, hc]; rfl) ?_
  refine goes_done ?_
  (try simp only [vq, if_true, reduceIte, Nat.reduceEqDiff, reduceCtorEq])
  refine awp_hard (id := h.length) (by simp -implicitDefEqProofs; rfl) ?_
  simp -implicitDefEqProofs only [Slots.melt, AV.melt, Nat.add_left_cancel_iff, Nat.add_eq_left, Nat.left_eq_add, Nat.reduceEqDiff, reduceIte, Nat.succ_ne_self, Nat.one_ne_zero, Nat.zero_ne_one, List.set_append_right, List.set_append_left, Nat.sub_self, Nat.le_refl, Nat.add_sub_cancel_left, Nat.le_add_right, List.set_cons_zero, List.set_cons_succ]
  repeat (first | ((first | refine zd ?_ | refine zx ?_ | refine zk ?_ | refine zl ?_ | refine zr ?_); refine zq ?_) | refine zs ?_ | refine zh (by simp -implicitDefEqProofs (disch := (first | omega | (simp; done) | fail)) [if_pos, if_neg, wrap_i64, tmod_pos, tdiv_pos, Int.toNat_add, hc]; rfl) ?_ | refine zb ?_ | refine zo ?_ | refine zt ?_ | refine zf ?_)
  have hw := hw.app [.dead]
  have k := Kept.refl (h ++ [.dead]) F
  refine goes_callS (callable_of Tryz.func33) (by simp -implicitDefEqProofs (disch := (first | omega | (simp; done) | fail)) [if_pos, if_neg, wrap_i64, tmod_pos, tdiv_pos, Int.toNat_add, wv, hs] <;> first | rfl | omega) _ (mnum_ok [.int .i64 n] 0 n rfl _ _ wid _ _ hw (by simp at hl ⊢; omega)) ?_
  rintro _ h' ⟨rfl, F', hw', k'⟩
  replace k := k.trans k'
  clear hw k'
  have hw := hw'
  clear hw'
  refine ze ?_
  repeat (first | ((first | refine zd ?_ | refine zx ?_ | refine zk ?_ | refine zl ?_ | refine zr ?_); refine zq ?_) | refine zs ?_ | refine zh (by simp -implicitDefEqProofs (disch := (first | omega | (simp; done) | fail)) [if_pos, if_neg, wrap_i64, tmod_pos, tdiv_pos, Int.toNat_add, hc]; rfl) ?_ | refine zb ?_ | refine zo ?_ | refine zt ?_ | refine zf ?_)
  have k := Kept.ofApp k
  have hkl := k.1
  first | refine body_all (.inr rfl) (by simp -implicitDefEqProofs; rfl) (by simp -implicitDefEqProofs; rfl) (by first | (simp; done) | (simp; omega) | omega) ?_ | refine body_all (.inl rfl) (by simp -implicitDefEqProofs; rfl) (by simp -implicitDefEqProofs; rfl) (by first | (simp; done) | (simp; omega) | omega) ?_
  exact ⟨rfl, _, by simpa [Bool.or_assoc, List.append_assoc] using hw, k⟩
theorem asErr_ok (cs : List AV) (off : Nat) (hs : cs.map AV.strip = cs) (n : Int) (hc : cs[off]? = some (.int .i64 n)) : Writes 95 [.ref cs off] [.num n] := by
  rintro h F wid l b hw hl
  have k := Kept.refl h F
  unfold wv
  refine acalls_of_awp Tryz.func95 rfl (by simp only [List.length_cons, List.length_nil]; decide) ?_
  simp only [params_cons, params_nil]
  refine awp_seq ?_
  refine zh (by simp -implicitDefEqProofs (disch := (first | omega | (simp; done) | fail)) [if_pos, if_neg, wrap_i64, tmod_pos, tdiv_pos, Int.toNat_add, hc]; rfl) ?_
  refine goes_done ?_
  (try simp only [vq, if_true, reduceIte, Nat.reduceEqDiff, reduceCtorEq])
  refine awp_hard (id := h.length) (by simp -implicitDefEqProofs; rfl) ?_
  simp -implicitDefEqProofs only [Slots.melt, AV.melt, Nat.add_left_cancel_iff, Nat.add_eq_left, Nat.left_eq_add, Nat.reduceEqDiff, reduceIte, Nat.succ_ne_self, Nat.one_ne_zero, Nat.zero_ne_one, List.set_append_right, List.set_append_left, Nat.sub_self, Nat.le_refl, Nat.add_sub_cancel_left, Nat.le_add_right, List.set_cons_zero, List.set_cons_succ]
  repeat (first | ((first | refine zd ?_ | refine zx ?_ | refine zk ?_ | refine zl ?_ | refine zr ?_); refine zq ?_) | refine zs ?_ | refine zh (by simp -implicitDefEqProofs (disch := (first | omega | (simp; done) | fail)) [if_pos, if_neg, wrap_i64, tmod_pos, tdiv_pos, Int.toNat_add, hc]; rfl) ?_ | refine zb ?_ | refine zo ?_ | refine zt ?_ | refine zf ?_)
  have hw := hw.app [.dead]
  have k := Kept.refl (h ++ [.dead]) F
  refine goes_callS (callable_of Tryz.func33) (by simp -implicitDefEqProofs (disch := (first | omega | (simp; done) | fail)) [if_pos, if_neg, wrap_i64, tmod_pos, tdiv_pos, Int.toNat_add, wv, hs] <;> first | rfl | omega) _ (mnum_ok [.int .i64 n] 0 n rfl _ _ wid _ _ hw (by simp at hl ⊢; omega)) ?_
  rintro _ h' ⟨rfl, F', hw', k'⟩
  replace k := k.trans k'
  clear hw k'
  have hw := hw'
  clear hw'
  refine ze ?_
  repeat (first | ((first | refine zd ?_ | refine zx ?_ | refine zk ?_ | refine zl ?_ | refine zr ?_); refine zq ?_) | refine zs ?_ | refine zh (by simp -implicitDefEqProofs (disch := (first | omega | (simp; done) | fail)) [if_pos, if_neg, wrap_i64, tmod_pos, tdiv_pos, Int.toNat_add, hc]; rfl) ?_ | refine zb ?_ | refine zo ?_ | refine zt ?_ | refine zf ?_)
  have k := Kept.ofApp k
  have hkl := k.1
  first | refine body_all (.inr rfl) (by simp -implicitDefEqProofs; rfl) (by simp -implicitDefEqProofs; rfl) (by first | (simp; done) | (simp; omega) | omega) ?_ | refine body_all (.inl rfl) (by simp -implicitDefEqProofs; rfl) (by simp -implicitDefEqProofs; rfl) (by first | (simp; done) | (simp; omega) | omega) ?_
  exact ⟨rfl, _, by simpa [Bool.or_assoc, List.append_assoc] using hw, k⟩
end Go.Proofs.YtdncoobpdllpkaaGreat.D

/- Messages as bytes: things, and how they are written. -/
set_option linter.unusedVariables false
set_option linter.unusedSimpArgs false
set_option maxRecDepth 20000
namespace Go.Proofs.YtdncoobpdllpkaaGreat.D
open Go Go.Proofs.YtdncoobpdllpkaaGreat.V Go.Proofs.YtdncoobpdllpkaaGreat.N
structure Iid where
  e : Int
  n : Int
  o : Int
  deriving DecidableEq
structure Bal where
  no : Int
  node : Int
  deriving DecidableEq
structure Cmd where
  client : Int
  seq : Int
  op : Int
  path : List UInt8
  value : List UInt8
  version : Int
  a : Int
  b : Int
  deriving DecidableEq
structure Inst where
  status : Int
  promise : Bal
  voted : Bal
  cmd : Cmd
  seq : Int
  deps : List Iid
  deriving DecidableEq
structure Reply where
  err : Int
  value : List UInt8
  version : Int
  names : List (List UInt8)
  deriving DecidableEq
structure Entry where
  path : List UInt8
  value : List UInt8
  version : Int
  deriving DecidableEq
structure Sess where
  client : Int
  seq : Int
  reply : Reply
  deriving DecidableEq
structure Snap where
  epoch : Int
  nodes : List Int
  paths : List Entry
  sessions : List Sess
  deriving DecidableEq
structure Msg where
  kind : Int
  src : Int
  dst : Int
  id : Iid
  ballot : Bal
  inst : Inst
  snap : Snap
  deriving DecidableEq
def Iid.c (x : Iid) : List AV := [iv x.e, iv x.n, iv x.o]
def Iid.av (x : Iid) : AV := .agg x.c
def Bal.c (x : Bal) : List AV := [iv x.no, iv x.node]
def Cmd.c (x : Cmd) : List AV := [iv x.client, iv x.seq, iv x.op, .str x.path, .str x.value, iv x.version, iv x.a, iv x.b]
def Inst.c (x : Inst) : List AV := [iv x.status, iv x.promise.no, iv x.promise.node, iv x.voted.no, iv x.voted.node, iv x.cmd.client, iv x.cmd.seq, iv x.cmd.op, .str x.cmd.path, .str x.cmd.value, iv x.cmd.version, iv x.cmd.a, iv x.cmd.b, iv x.seq, .list (x.deps.map Iid.av) .no]
def Reply.c (x : Reply) : List AV := [iv x.err, .str x.value, iv x.version, .list (x.names.map .str) .no]
def Entry.c (x : Entry) : List AV := [.str x.path, .str x.value, iv x.version]
def Entry.av (x : Entry) : AV := .agg x.c
def Sess.c (x : Sess) : List AV := [iv x.client, iv x.seq, iv x.reply.err, .str x.reply.value, iv x.reply.version, .list (x.reply.names.map .str) .no]
def Sess.av (x : Sess) : AV := .agg x.c
def Snap.c (x : Snap) : List AV := [iv x.epoch, .list (x.nodes.map iv) .no, .list (x.paths.map Entry.av) .no, .list (x.sessions.map Sess.av) .no]
def Msg.c (x : Msg) : List AV := [iv x.kind, iv x.src, iv x.dst, iv x.id.e, iv x.id.n, iv x.id.o, iv x.ballot.no, iv x.ballot.node,
  iv x.inst.status, iv x.inst.promise.no, iv x.inst.promise.node, iv x.inst.voted.no, iv x.inst.voted.node, iv x.inst.cmd.client, iv x.inst.cmd.seq, iv x.inst.cmd.op, .str x.inst.cmd.path, .str x.inst.cmd.value, iv x.inst.cmd.version, iv x.inst.cmd.a, iv x.inst.cmd.b, iv x.inst.seq, .list (x.inst.deps.map Iid.av) .no,
  iv x.snap.epoch, .list (x.snap.nodes.map iv) .no, .list (x.snap.paths.map Entry.av) .no, .list (x.snap.sessions.map Sess.av) .no]
def Iid.t (x : Iid) : List Tk := [.num x.e, .num x.n, .num x.o]
def Bal.t (x : Bal) : List Tk := [.num x.no, .num x.node]
def Cmd.t (x : Cmd) : List Tk := [.num x.client, .num x.seq, .num x.op, .text x.path, .text x.value, .num x.version, .num x.a, .num x.b]
def listT {α : Type} (f : α → List Tk) (l : List α) : List Tk := .size l.length :: l.flatMap f
def Inst.t (x : Inst) : List Tk := .num x.status :: (x.promise.t ++ (x.voted.t ++ (x.cmd.t ++ (.num x.seq :: listT Iid.t x.deps))))
def numT (n : Int) : List Tk := [.num n]
def textT (s : List UInt8) : List Tk := [.text s]
def Reply.t (x : Reply) : List Tk := .num x.err :: .text x.value :: .num x.version :: listT textT x.names
def Entry.t (x : Entry) : List Tk := [.text x.path, .text x.value, .num x.version]
def Sess.t (x : Sess) : List Tk := .num x.client :: .num x.seq :: x.reply.t
def Snap.t (x : Snap) : List Tk := .num x.epoch :: (listT numT x.nodes ++ (listT Entry.t x.paths ++ listT Sess.t x.sessions))
def Msg.t (x : Msg) : List Tk := .num x.kind :: .num x.src :: .num x.dst :: (x.id.t ++ (x.ballot.t ++ (x.inst.t ++ x.snap.t)))
/-- What lies from a place on. -/
def At (cs : List AV) (off : Nat) : Nat → List AV → Prop
  | _, [] => True
  | k, x :: r => cs[off + k]? = some x ∧ At cs off (k + 1) r
theorem At.self (cs : List AV) : ∀ (l : List AV) (k : Nat), cs.drop k = l → At cs 0 k l
  | [], k, h => trivial
  | x :: r, k, h => ⟨by
      have := congrArg (fun l => l[0]?) h
      simpa using this, At.self cs r (k + 1) (by rw [← List.drop_drop, h]; rfl)⟩
theorem wid_ok (cs : List AV) (off : Nat) (hs : cs.map AV.strip = cs) (x : Iid) (hp : At cs off 0 x.c) : Writes 55 [.ref cs off] x.t := by
  simp only [At, Iid.c, Nat.add_zero, Nat.zero_add, Nat.reduceAdd] at hp
  obtain ⟨p0, p1, p2, -⟩ := hp
  unfold Iid.t
  rintro h F wid l b hw hl
  have k := Kept.refl h F
  unfold wv
  refine acalls_of_awp Tryz.func55 rfl (by simp only [List.length_cons, List.length_nil]; decide) ?_
  simp only [params_cons, params_nil]
  (try refine awp_seq ?_)
  refine awp_draw (.q 0 (.q 1 (.q 2 (.q 3 (.q 4 (.q 5 (.q 6 (.a 7 (.done))))))))) (by kernel_rfl) (by kernel_rfl) (tree_start (goesT_eq (by simp -implicitDefEqProofs (disch := (first | omega | (simp; done) | fail)) [if_pos, if_neg, wrap_i64, tmod_pos, tdiv_pos, Int.toNat_add, wv]; rfl) ?_))
  refine goesT_callS (callable_of Tryz.func33) (by simp -implicitDefEqProofs (disch := (first | omega | (simp; done) | fail)) [if_pos, if_neg, wrap_i64, tmod_pos, tdiv_pos, Int.toNat_add, wv, hs] <;> first | rfl | omega) _ (mnum_ok cs off x.e p0 _ _ wid _ _ hw (by simp at hl ⊢; omega)) ?_
  rintro _ h' ⟨rfl, F', hw', k'⟩
  replace k := k.trans k'
  clear hw k'
  have hw := hw'
  clear hw'
  refine zE ?_
  refine goesT_done ?_
  (try simp only [vq, if_true, reduceIte, Nat.reduceEqDiff, reduceCtorEq])
  (try refine awp_seq ?_)
  refine awp_draw (.q 0 (.q 1 (.q 2 (.q 3 (.q 4 (.q 5 (.q 6 (.a 7 (.done))))))))) (by kernel_rfl) (by kernel_rfl) (tree_start (goesT_eq (by simp -implicitDefEqProofs (disch := (first | omega | (simp; done) | fail)) [if_pos, if_neg, wrap_i64, tmod_pos, tdiv_pos, Int.toNat_add, wv]; rfl) ?_))
  refine goesT_callS (callable_of Tryz.func33) (by simp -implicitDefEqProofs (disch := (first | omega | (simp; done) | fail)) [if_pos, if_neg, wrap_i64, tmod_pos, tdiv_pos, Int.toNat_add, wv, hs] <;> first | rfl | omega) _ (mnum_ok cs (off + 1) x.n p1 _ _ wid _ _ hw (by simp at hl ⊢; omega)) ?_
  rintro _ h' ⟨rfl, F', hw', k'⟩
  replace k := k.trans k'
  clear hw k'
  have hw := hw'
  clear hw'
  refine zE ?_
  refine goesT_done ?_
  (try simp only [vq, if_true, reduceIte, Nat.reduceEqDiff, reduceCtorEq])
  (try refine awp_seq ?_)
  refine awp_draw (.q 0 (.q 1 (.q 2 (.q 3 (.q 4 (.q 5 (.q 6 (.a 7 (.done))))))))) (by kernel_rfl) (by kernel_rfl) (tree_start (goesT_eq (by simp -implicitDefEqProofs (disch := (first | omega | (simp; done) | fail)) [if_pos, if_neg, wrap_i64, tmod_pos, tdiv_pos, Int.toNat_add, wv]; rfl) ?_))
  refine goesT_callS (callable_of Tryz.func33) (by simp -implicitDefEqProofs (disch := (first | omega | (simp; done) | fail)) [if_pos, if_neg, wrap_i64, tmod_pos, tdiv_pos, Int.toNat_add, wv, hs] <;> first | rfl | omega) _ (mnum_ok cs (off + 2) x.o p2 _ _ wid _ _ hw (by simp at hl ⊢; omega)) ?_
  rintro _ h' ⟨rfl, F', hw', k'⟩
  replace k := k.trans k'
  clear hw k'
  have hw := hw'
  clear hw'
  refine zE ?_
  refine goesT_done ?_
  (try simp only [vq, if_true, reduceIte, Nat.reduceEqDiff, reduceCtorEq])
  have hkl := k.1
  first | refine body_all (.inr rfl) (by simp -implicitDefEqProofs; rfl) (by simp -implicitDefEqProofs; rfl) (by first | (simp; done) | (simp; omega) | omega) ?_ | refine body_all (.inl rfl) (by simp -implicitDefEqProofs; rfl) (by simp -implicitDefEqProofs; rfl) (by first | (simp; done) | (simp; omega) | omega) ?_
  exact ⟨rfl, _, by simpa [Bool.or_assoc, List.append_assoc] using hw, k⟩
theorem wballot_ok (cs : List AV) (off : Nat) (hs : cs.map AV.strip = cs) (x : Bal) (hp : At cs off 0 x.c) : Writes 76 [.ref cs off] x.t := by
  simp only [At, Bal.c, Nat.add_zero, Nat.zero_add, Nat.reduceAdd] at hp
  obtain ⟨p0, p1, -⟩ := hp
  unfold Bal.t
  rintro h F wid l b hw hl
  have k := Kept.refl h F
  unfold wv
  refine acalls_of_awp Tryz.func76 rfl (by simp only [List.length_cons, List.length_nil]; decide) ?_
  simp only [params_cons, params_nil]
  (try refine awp_seq ?_)
  refine awp_draw (.q 0 (.q 1 (.q 2 (.q 3 (.q 4 (.q 5 (.q 6 (.a 7 (.done))))))))) (by kernel_rfl) (by kernel_rfl) (tree_start (goesT_eq (by simp -implicitDefEqProofs (disch := (first | omega | (simp; done) | fail)) [if_pos, if_neg, wrap_i64, tmod_pos, tdiv_pos, Int.toNat_add, wv]; rfl) ?_))
  refine goesT_callS (callable_of Tryz.func33) (by simp -implicitDefEqProofs (disch := (first | omega | (simp; done) | fail)) [if_pos, if_neg, wrap_i64, tmod_pos, tdiv_pos, Int.toNat_add, wv, hs] <;> first | rfl | omega) _ (mnum_ok cs off x.no p0 _ _ wid _ _ hw (by simp at hl ⊢; omega)) ?_
  rintro _ h' ⟨rfl, F', hw', k'⟩
  replace k := k.trans k'
  clear hw k'
  have hw := hw'
  clear hw'
  refine zE ?_
  refine goesT_done ?_
  (try simp only [vq, if_true, reduceIte, Nat.reduceEqDiff, reduceCtorEq])
  (try refine awp_seq ?_)
  refine awp_draw (.q 0 (.q 1 (.q 2 (.q 3 (.q 4 (.q 5 (.q 6 (.a 7 (.done))))))))) (by kernel_rfl) (by kernel_rfl) (tree_start (goesT_eq (by simp -implicitDefEqProofs (disch := (first | omega | (simp; done) | fail)) [if_pos, if_neg, wrap_i64, tmod_pos, tdiv_pos, Int.toNat_add, wv]; rfl) ?_))
  refine goesT_callS (callable_of Tryz.func33) (by simp -implicitDefEqProofs (disch := (first | omega | (simp; done) | fail)) [if_pos, if_neg, wrap_i64, tmod_pos, tdiv_pos, Int.toNat_add, wv, hs] <;> first | rfl | omega) _ (mnum_ok cs (off + 1) x.node p1 _ _ wid _ _ hw (by simp at hl ⊢; omega)) ?_
  rintro _ h' ⟨rfl, F', hw', k'⟩
  replace k := k.trans k'
  clear hw k'
  have hw := hw'
  clear hw'
  refine zE ?_
  refine goesT_done ?_
  (try simp only [vq, if_true, reduceIte, Nat.reduceEqDiff, reduceCtorEq])
  have hkl := k.1
  first | refine body_all (.inr rfl) (by simp -implicitDefEqProofs; rfl) (by simp -implicitDefEqProofs; rfl) (by first | (simp; done) | (simp; omega) | omega) ?_ | refine body_all (.inl rfl) (by simp -implicitDefEqProofs; rfl) (by simp -implicitDefEqProofs; rfl) (by first | (simp; done) | (simp; omega) | omega) ?_
  exact ⟨rfl, _, by simpa [Bool.or_assoc, List.append_assoc] using hw, k⟩
theorem wcommand_ok (cs : List AV) (off : Nat) (hs : cs.map AV.strip = cs) (x : Cmd) (hp : At cs off 0 x.c) : Writes 77 [.ref cs off] x.t := by
  simp only [At, Cmd.c, Nat.add_zero, Nat.zero_add, Nat.reduceAdd] at hp
  obtain ⟨p0, p1, p2, p3, p4, p5, p6, p7, -⟩ := hp
  unfold Cmd.t
  rintro h F wid l b hw hl
  have k := Kept.refl h F
  unfold wv
  refine acalls_of_awp Tryz.func77 rfl (by simp only [List.length_cons, List.length_nil]; decide) ?_
  simp only [params_cons, params_nil]
  (try refine awp_seq ?_)
  refine awp_draw (.q 0 (.q 1 (.q 2 (.q 3 (.q 4 (.q 5 (.q 6 (.a 7 (.done))))))))) (by kernel_rfl) (by kernel_rfl) (tree_start (goesT_eq (by simp -implicitDefEqProofs (disch := (first | omega | (simp; done) | fail)) [if_pos, if_neg, wrap_i64, tmod_pos, tdiv_pos, Int.toNat_add, wv]; rfl) ?_))
  refine goesT_callS (callable_of Tryz.func33) (by simp -implicitDefEqProofs (disch := (first | omega | (simp; done) | fail)) [if_pos, if_neg, wrap_i64, tmod_pos, tdiv_pos, Int.toNat_add, wv, hs] <;> first | rfl | omega) _ (mnum_ok cs off x.client p0 _ _ wid _ _ hw (by simp at hl ⊢; omega)) ?_
  rintro _ h' ⟨rfl, F', hw', k'⟩
  replace k := k.trans k'
  clear hw k'
  have hw := hw'
  clear hw'
  refine zE ?_
  refine goesT_done ?_
  (try simp only [vq, if_true, reduceIte, Nat.reduceEqDiff, reduceCtorEq])
  (try refine awp_seq ?_)
  refine awp_draw (.q 0 (.q 1 (.q 2 (.q 3 (.q 4 (.q 5 (.q 6 (.a 7 (.done))))))))) (by kernel_rfl) (by kernel_rfl) (tree_start (goesT_eq (by simp -implicitDefEqProofs (disch := (first | omega | (simp; done) | fail)) [if_pos, if_neg, wrap_i64, tmod_pos, tdiv_pos, Int.toNat_add, wv]; rfl) ?_))
  refine goesT_callS (callable_of Tryz.func33) (by simp -implicitDefEqProofs (disch := (first | omega | (simp; done) | fail)) [if_pos, if_neg, wrap_i64, tmod_pos, tdiv_pos, Int.toNat_add, wv, hs] <;> first | rfl | omega) _ (mnum_ok cs (off + 1) x.seq p1 _ _ wid _ _ hw (by simp at hl ⊢; omega)) ?_
  rintro _ h' ⟨rfl, F', hw', k'⟩
  replace k := k.trans k'
  clear hw k'
  have hw := hw'
  clear hw'
  refine zE ?_
  refine goesT_done ?_
  (try simp only [vq, if_true, reduceIte, Nat.reduceEqDiff, reduceCtorEq])
  repeat (first | ((first | refine zd ?_ | refine zx ?_ | refine zk ?_ | refine zl ?_ | refine zr ?_); refine zq ?_) | refine zs ?_ | refine zg ?_ | refine zb ?_ | refine zo ?_ | refine zt ?_ | refine zf ?_)
  refine goes_callS (callable_of Tryz.func88) (by simp -implicitDefEqProofs (disch := (first | omega | (simp; done) | fail)) [if_pos, if_neg, wrap_i64, tmod_pos, tdiv_pos, Int.toNat_add, wv, hs] <;> first | rfl | omega) _ (asOp_ok cs (off + 2) hs x.op p2 _ _ wid _ _ hw (by simp at hl ⊢; omega)) ?_
  rintro _ h' ⟨rfl, F', hw', k'⟩
  replace k := k.trans k'
  clear hw k'
  have hw := hw'
  clear hw'
  refine ze ?_
  (refine goes_done ?_; (try simp only [vq, if_true, reduceIte, Nat.reduceEqDiff, reduceCtorEq]))
  (try refine awp_seq ?_)
  refine awp_draw (.q 0 (.q 1 (.q 2 (.q 3 (.q 4 (.q 5 (.q 6 (.a 7 (.done))))))))) (by kernel_rfl) (by kernel_rfl) (tree_start (goesT_eq (by simp -implicitDefEqProofs (disch := (first | omega | (simp; done) | fail)) [if_pos, if_neg, wrap_i64, tmod_pos, tdiv_pos, Int.toNat_add, wv]; rfl) ?_))
  refine goesT_callS (callable_of Tryz.func135) (by simp -implicitDefEqProofs (disch := (first | omega | (simp; done) | fail)) [if_pos, if_neg, wrap_i64, tmod_pos, tdiv_pos, Int.toNat_add, wv, hs] <;> first | rfl | omega) _ (mtext_ok cs (off + 3) x.path p3 _ _ wid _ _ hw (by simp at hl ⊢; omega)) ?_
  rintro _ h' ⟨rfl, F', hw', k'⟩
  replace k := k.trans k'
  clear hw k'
  have hw := hw'
  clear hw'
  refine zE ?_
  refine goesT_done ?_
  (try simp only [vq, if_true, reduceIte, Nat.reduceEqDiff, reduceCtorEq])
  (try refine awp_seq ?_)
  refine awp_draw (.q 0 (.q 1 (.q 2 (.q 3 (.q 4 (.q 5 (.q 6 (.a 7 (.done))))))))) (by kernel_rfl) (by kernel_rfl) (tree_start (goesT_eq (by simp -implicitDefEqProofs (disch := (first | omega | (simp; done) | fail)) [if_pos, if_neg, wrap_i64, tmod_pos, tdiv_pos, Int.toNat_add, wv]; rfl) ?_))
  refine goesT_callS (callable_of Tryz.func135) (by simp -implicitDefEqProofs (disch := (first | omega | (simp; done) | fail)) [if_pos, if_neg, wrap_i64, tmod_pos, tdiv_pos, Int.toNat_add, wv, hs] <;> first | rfl | omega) _ (mtext_ok cs (off + 4) x.value p4 _ _ wid _ _ hw (by simp at hl ⊢; omega)) ?_
  rintro _ h' ⟨rfl, F', hw', k'⟩
  replace k := k.trans k'
  clear hw k'
  have hw := hw'
  clear hw'
  refine zE ?_
  refine goesT_done ?_
  (try simp only [vq, if_true, reduceIte, Nat.reduceEqDiff, reduceCtorEq])
  (try refine awp_seq ?_)
  refine awp_draw (.q 0 (.q 1 (.q 2 (.q 3 (.q 4 (.q 5 (.q 6 (.a 7 (.done))))))))) (by kernel_rfl) (by kernel_rfl) (tree_start (goesT_eq (by simp -implicitDefEqProofs (disch := (first | omega | (simp; done) | fail)) [if_pos, if_neg, wrap_i64, tmod_pos, tdiv_pos, Int.toNat_add, wv]; rfl) ?_))
  refine goesT_callS (callable_of Tryz.func33) (by simp -implicitDefEqProofs (disch := (first | omega | (simp; done) | fail)) [if_pos, if_neg, wrap_i64, tmod_pos, tdiv_pos, Int.toNat_add, wv, hs] <;> first | rfl | omega) _ (mnum_ok cs (off + 5) x.version p5 _ _ wid _ _ hw (by simp at hl ⊢; omega)) ?_
  rintro _ h' ⟨rfl, F', hw', k'⟩
  replace k := k.trans k'
  clear hw k'
  have hw := hw'
  clear hw'
  refine zE ?_
  refine goesT_done ?_
  (try simp only [vq, if_true, reduceIte, Nat.reduceEqDiff, reduceCtorEq])
  (try refine awp_seq ?_)
  refine awp_draw (.q 0 (.q 1 (.q 2 (.q 3 (.q 4 (.q 5 (.q 6 (.a 7 (.done))))))))) (by kernel_rfl) (by kernel_rfl) (tree_start (goesT_eq (by simp -implicitDefEqProofs (disch := (first | omega | (simp; done) | fail)) [if_pos, if_neg, wrap_i64, tmod_pos, tdiv_pos, Int.toNat_add, wv]; rfl) ?_))
  refine goesT_callS (callable_of Tryz.func33) (by simp -implicitDefEqProofs (disch := (first | omega | (simp; done) | fail)) [if_pos, if_neg, wrap_i64, tmod_pos, tdiv_pos, Int.toNat_add, wv, hs] <;> first | rfl | omega) _ (mnum_ok cs (off + 6) x.a p6 _ _ wid _ _ hw (by simp at hl ⊢; omega)) ?_
  rintro _ h' ⟨rfl, F', hw', k'⟩
  replace k := k.trans k'
  clear hw k'
  have hw := hw'
  clear hw'
  refine zE ?_
  refine goesT_done ?_
  (try simp only [vq, if_true, reduceIte, Nat.reduceEqDiff, reduceCtorEq])
  (try refine awp_seq ?_)
  refine awp_draw (.q 0 (.q 1 (.q 2 (.q 3 (.q 4 (.q 5 (.q 6 (.a 7 (.done))))))))) (by kernel_rfl) (by kernel_rfl) (tree_start (goesT_eq (by simp -implicitDefEqProofs (disch := (first | omega | (simp; done) | fail)) [if_pos, if_neg, wrap_i64, tmod_pos, tdiv_pos, Int.toNat_add, wv]; rfl) ?_))
  refine goesT_callS (callable_of Tryz.func33) (by simp -implicitDefEqProofs (disch := (first | omega | (simp; done) | fail)) [if_pos, if_neg, wrap_i64, tmod_pos, tdiv_pos, Int.toNat_add, wv, hs] <;> first | rfl | omega) _ (mnum_ok cs (off + 7) x.b p7 _ _ wid _ _ hw (by simp at hl ⊢; omega)) ?_
  rintro _ h' ⟨rfl, F', hw', k'⟩
  replace k := k.trans k'
  clear hw k'
  have hw := hw'
  clear hw'
  refine zE ?_
  refine goesT_done ?_
  (try simp only [vq, if_true, reduceIte, Nat.reduceEqDiff, reduceCtorEq])
  have hkl := k.1
  first | refine body_all (.inr rfl) (by simp -implicitDefEqProofs; rfl) (by simp -implicitDefEqProofs; rfl) (by first | (simp; done) | (simp; omega) | omega) ?_ | refine body_all (.inl rfl) (by simp -implicitDefEqProofs; rfl) (by simp -implicitDefEqProofs; rfl) (by first | (simp; done) | (simp; omega) | omega) ?_
  exact ⟨rfl, _, by simpa [Bool.or_assoc, List.append_assoc] using hw, k⟩
end Go.Proofs.YtdncoobpdllpkaaGreat.D

/- Messages as bytes: lists are written. -/
set_option linter.unusedVariables false
set_option linter.unusedSimpArgs false
set_option maxRecDepth 20000
namespace Go.Proofs.YtdncoobpdllpkaaGreat.D
open Go Go.Proofs.YtdncoobpdllpkaaGreat.V Go.Proofs.YtdncoobpdllpkaaGreat.N
theorem wnumber_ok (cs : List AV) (off : Nat) (hs : cs.map AV.strip = cs) (n : Int) (hc : cs[off]? = some (iv n)) : Writes 70 [.ref cs off] (numT n) := by
  unfold numT
  rintro h F wid l b hw hl
  have k := Kept.refl h F
  unfold wv
  refine acalls_of_awp Tryz.func70 rfl (by simp only [List.length_cons, List.length_nil]; decide) ?_
  simp only [params_cons, params_nil]
  repeat (first | ((first | refine zd ?_ | refine zx ?_ | refine zk ?_ | refine zl ?_ | refine zr ?_); refine zq ?_) | refine zs ?_ | refine zg ?_ | refine zb ?_ | refine zo ?_ | refine zt ?_ | refine zf ?_)
  refine goes_callS (callable_of Tryz.func33) (by simp -implicitDefEqProofs (disch := (first | omega | (simp; done) | fail)) [if_pos, if_neg, wrap_i64, tmod_pos, tdiv_pos, Int.toNat_add, wv, hs] <;> first | rfl | omega) _ (mnum_ok cs off n hc _ _ wid _ _ hw (by simp at hl ⊢; omega)) ?_
  rintro _ h' ⟨rfl, F', hw', k'⟩
  replace k := k.trans k'
  clear hw k'
  have hw := hw'
  clear hw'
  refine ze ?_
  (refine goes_done ?_; (try simp only [vq, if_true, reduceIte, Nat.reduceEqDiff, reduceCtorEq]))
  have hkl := k.1
  first | refine body_all (.inr rfl) (by simp -implicitDefEqProofs; rfl) (by simp -implicitDefEqProofs; rfl) (by first | (simp; done) | (simp; omega) | omega) ?_ | refine body_all (.inl rfl) (by simp -implicitDefEqProofs; rfl) (by simp -implicitDefEqProofs; rfl) (by first | (simp; done) | (simp; omega) | omega) ?_
  exact ⟨rfl, _, by simpa [Bool.or_assoc, List.append_assoc] using hw, k⟩
theorem wtxt_ok (cs : List AV) (off : Nat) (hs : cs.map AV.strip = cs) (s : List UInt8) (hc : cs[off]? = some (.str s)) : Writes 97 [.ref cs off] (textT s) := by
  unfold textT
  rintro h F wid l b hw hl
  have k := Kept.refl h F
  unfold wv
  refine acalls_of_awp Tryz.func97 rfl (by simp only [List.length_cons, List.length_nil]; decide) ?_
  simp only [params_cons, params_nil]
  repeat (first | ((first | refine zd ?_ | refine zx ?_ | refine zk ?_ | refine zl ?_ | refine zr ?_); refine zq ?_) | refine zs ?_ | refine zg ?_ | refine zb ?_ | refine zo ?_ | refine zt ?_ | refine zf ?_)
  refine goes_callS (callable_of Tryz.func135) (by simp -implicitDefEqProofs (disch := (first | omega | (simp; done) | fail)) [if_pos, if_neg, wrap_i64, tmod_pos, tdiv_pos, Int.toNat_add, wv, hs] <;> first | rfl | omega) _ (mtext_ok cs off s hc _ _ wid _ _ hw (by simp at hl ⊢; omega)) ?_
  rintro _ h' ⟨rfl, F', hw', k'⟩
  replace k := k.trans k'
  clear hw k'
  have hw := hw'
  clear hw'
  refine ze ?_
  (refine goes_done ?_; (try simp only [vq, if_true, reduceIte, Nat.reduceEqDiff, reduceCtorEq]))
  have hkl := k.1
  first | refine body_all (.inr rfl) (by simp -implicitDefEqProofs; rfl) (by simp -implicitDefEqProofs; rfl) (by first | (simp; done) | (simp; omega) | omega) ?_ | refine body_all (.inl rfl) (by simp -implicitDefEqProofs; rfl) (by simp -implicitDefEqProofs; rfl) (by first | (simp; done) | (simp; omega) | omega) ?_
  exact ⟨rfl, _, by simpa [Bool.or_assoc, List.append_assoc] using hw, k⟩
theorem wentry_ok (cs : List AV) (off : Nat) (hs : cs.map AV.strip = cs) (x : Entry) (hp : At cs off 0 x.c) : Writes 72 [.ref cs off] x.t := by
  simp only [At, Entry.c, Nat.add_zero, Nat.zero_add, Nat.reduceAdd] at hp
  obtain ⟨p0, p1, p2, -⟩ := hp
  unfold Entry.t
  rintro h F wid l b hw hl
  have k := Kept.refl h F
  unfold wv
  refine acalls_of_awp Tryz.func72 rfl (by simp only [List.length_cons, List.length_nil]; decide) ?_
  simp only [params_cons, params_nil]
  (try refine awp_seq ?_)
  refine awp_draw (.q 0 (.q 1 (.q 2 (.q 3 (.q 4 (.q 5 (.q 6 (.a 7 (.done))))))))) (by kernel_rfl) (by kernel_rfl) (tree_start (goesT_eq (by simp -implicitDefEqProofs (disch := (first | omega | (simp; done) | fail)) [if_pos, if_neg, wrap_i64, tmod_pos, tdiv_pos, Int.toNat_add, wv]; rfl) ?_))
  refine goesT_callS (callable_of Tryz.func135) (by simp -implicitDefEqProofs (disch := (first | omega | (simp; done) | fail)) [if_pos, if_neg, wrap_i64, tmod_pos, tdiv_pos, Int.toNat_add, wv, hs] <;> first | rfl | omega) _ (mtext_ok cs off x.path p0 _ _ wid _ _ hw (by simp at hl ⊢; omega)) ?_
  rintro _ h' ⟨rfl, F', hw', k'⟩
  replace k := k.trans k'
  clear hw k'
  have hw := hw'
  clear hw'
  refine zE ?_
  refine goesT_done ?_
  (try simp only [vq, if_true, reduceIte, Nat.reduceEqDiff, reduceCtorEq])
  (try refine awp_seq ?_)
  refine awp_draw (.q 0 (.q 1 (.q 2 (.q 3 (.q 4 (.q 5 (.q 6 (.a 7 (.done))))))))) (by kernel_rfl) (by kernel_rfl) (tree_start (goesT_eq (by simp -implicitDefEqProofs (disch := (first | omega | (simp; done) | fail)) [if_pos, if_neg, wrap_i64, tmod_pos, tdiv_pos, Int.toNat_add, wv]; rfl) ?_))
  refine goesT_callS (callable_of Tryz.func135) (by simp -implicitDefEqProofs (disch := (first | omega | (simp; done) | fail)) [if_pos, if_neg, wrap_i64, tmod_pos, tdiv_pos, Int.toNat_add, wv, hs] <;> first | rfl | omega) _ (mtext_ok cs (off + 1) x.value p1 _ _ wid _ _ hw (by simp at hl ⊢; omega)) ?_
  rintro _ h' ⟨rfl, F', hw', k'⟩
  replace k := k.trans k'
  clear hw k'
  have hw := hw'
  clear hw'
  refine zE ?_
  refine goesT_done ?_
  (try simp only [vq, if_true, reduceIte, Nat.reduceEqDiff, reduceCtorEq])
  (try refine awp_seq ?_)
  refine awp_draw (.q 0 (.q 1 (.q 2 (.q 3 (.q 4 (.q 5 (.q 6 (.a 7 (.done))))))))) (by kernel_rfl) (by kernel_rfl) (tree_start (goesT_eq (by simp -implicitDefEqProofs (disch := (first | omega | (simp; done) | fail)) [if_pos, if_neg, wrap_i64, tmod_pos, tdiv_pos, Int.toNat_add, wv]; rfl) ?_))
  refine goesT_callS (callable_of Tryz.func33) (by simp -implicitDefEqProofs (disch := (first | omega | (simp; done) | fail)) [if_pos, if_neg, wrap_i64, tmod_pos, tdiv_pos, Int.toNat_add, wv, hs] <;> first | rfl | omega) _ (mnum_ok cs (off + 2) x.version p2 _ _ wid _ _ hw (by simp at hl ⊢; omega)) ?_
  rintro _ h' ⟨rfl, F', hw', k'⟩
  replace k := k.trans k'
  clear hw k'
  have hw := hw'
  clear hw'
  refine zE ?_
  refine goesT_done ?_
  (try simp only [vq, if_true, reduceIte, Nat.reduceEqDiff, reduceCtorEq])
  have hkl := k.1
  first | refine body_all (.inr rfl) (by simp -implicitDefEqProofs; rfl) (by simp -implicitDefEqProofs; rfl) (by first | (simp; done) | (simp; omega) | omega) ?_ | refine body_all (.inl rfl) (by simp -implicitDefEqProofs; rfl) (by simp -implicitDefEqProofs; rfl) (by first | (simp; done) | (simp; omega) | omega) ?_
  exact ⟨rfl, _, by simpa [Bool.or_assoc, List.append_assoc] using hw, k⟩
theorem flatMap_split {α : Type} (f : α → List Tk) (xs : List α) (i : Nat) (x : α) (hx : xs[i]? = some x) : xs.flatMap f = (xs.take i).flatMap f ++ (f x ++ (xs.drop (i + 1)).flatMap f) := by
  obtain ⟨hi, rfl⟩ := List.getElem?_eq_some_iff.1 hx
  have e : xs = xs.take i ++ xs[i] :: xs.drop (i + 1) := by rw [← List.drop_eq_getElem_cons hi, List.take_append_drop]
  have := congrArg (List.flatMap f) e
  rw [List.flatMap_append, List.flatMap_cons] at this
  exact this
theorem flatMap_next {α : Type} (f : α → List Tk) (xs : List α) (i : Nat) (x : α) (hx : xs[i]? = some x) : (xs.take (i + 1)).flatMap f = (xs.take i).flatMap f ++ f x := by
  rw [List.take_add_one, hx]; simp
theorem iv_uni (l : List Int) : uni 1 (l.map iv) = true := uni_map fun _ => rfl
theorem str_uni (l : List (List UInt8)) : uni 1 (l.map AV.str) = true := uni_map fun _ => rfl
theorem idl_uni (l : List Iid) : uni 3 (l.map Iid.av) = true := uni_map fun _ => rfl
theorem entl_uni (l : List Entry) : uni 3 (l.map Entry.av) = true := uni_map fun _ => rfl
theorem sesl_uni (l : List Sess) : uni 6 (l.map Sess.av) = true := uni_map fun _ => rfl
theorem id_strip (x : Iid) : x.c.map AV.strip = x.c := by simp [Iid.c]
theorem ent_strip (x : Entry) : x.c.map AV.strip = x.c := by simp [Entry.c]
theorem one_id (x : Iid) : Writes 55 [.ref x.c 0] x.t := wid_ok x.c 0 (id_strip x) x (At.self _ _ 0 rfl)
theorem one_num (n : Int) : Writes 70 [.ref [iv n] 0] (numT n) := wnumber_ok [iv n] 0 (by simp) n rfl
theorem one_text (s : List UInt8) : Writes 97 [.ref [.str s] 0] (textT s) := wtxt_ok [.str s] 0 (by simp) s rfl
theorem one_entry (x : Entry) : Writes 72 [.ref x.c 0] x.t := wentry_ok x.c 0 (ent_strip x) x (At.self _ _ 0 rfl)
theorem wids_ok (cs : List AV) (off : Nat) (hs : cs.map AV.strip = cs) (xs : List Iid) (hx : cs[off]? = some (.list (xs.map Iid.av) .no)) (hn : xs.length ≤ 2000000) : Writes 78 [.ref cs off, .func (.func 55) [] []] (listT Iid.t xs) := by
  unfold listT
  rintro h F wid l b hw hl
  have k := Kept.refl h F
  unfold wv
  have hl0 := hl
  refine acalls_of_awp Tryz.func78 rfl (by simp only [List.length_cons, List.length_nil]; decide) ?_
  simp only [params_cons, params_nil]
  refine awp_seq ?_
  refine awp_draw (.q 0 (.q 1 (.q 2 (.q 5 (.q 6 (.q 7 (.a 3 (.q 4 (.a 8 (.q 9 (.done))))))))))) (by kernel_rfl) (by kernel_rfl) (tree_start (goesT_eq (by simp -implicitDefEqProofs (disch := (first | omega | (simp; done) | fail)) [if_pos, if_neg, wrap_i64, tmod_pos, tdiv_pos, Int.toNat_add, wv, hx]; rfl) ?_))
  refine goesT_callS (callable_of Tryz.func134) (by simp -implicitDefEqProofs (disch := (first | omega | (simp; done) | fail)) [if_pos, if_neg, wrap_i64, tmod_pos, tdiv_pos, Int.toNat_add, wv, hs] <;> first | rfl | omega) _ (msize_ok xs.length (by omega) _ _ wid _ _ hw (by simp at hl ⊢; omega)) ?_
  rintro _ h' ⟨rfl, F', hw', k'⟩
  replace k := k.trans k'
  clear hw k'
  have hw := hw'
  clear hw'
  refine zE ?_
  refine goesT_done ?_
  (try simp only [vq, if_true, reduceIte, Nat.reduceEqDiff, reduceCtorEq])
  repeat (first | ((first | refine zd ?_ | refine zx ?_ | refine zk ?_ | refine zl ?_ | refine zr ?_); refine zq ?_) | refine zs ?_ | refine zg ?_ | refine zb ?_ | refine zo ?_ | refine zt ?_ | refine zf ?_)
  refine awp_loop (fun z st => ∃ (i : Nat) (h' : AHeap) (F' : Nat → Prop), z = xs.length - i ∧ i ≤ xs.length ∧ Wd h' F' wid (l ++ flat (.size xs.length :: (xs.take i).flatMap Iid.t)) (b || bads (.size xs.length :: (xs.take i).flatMap Iid.t)) ∧ Kept h F h' F' ∧
    st.le ⟨Tryz.f78.ntmps, [(0, wv wid), (1, .ref cs off), (2, .func (.func 55) [] []), (7, .nilptr), (8, .bool false), (25, .int .i64 xs.length), (26, .int .i64 i)], h'⟩) xs.length ?_ ?_
  rotate_left
  · rintro z st ⟨i, h', F', rfl, hi, hw, k, hle⟩
    refine awp_le hle ?_
    unfold wv
    repeat (first | ((first | refine zd ?_ | refine zx ?_ | refine zk ?_ | refine zl ?_ | refine zr ?_); refine zq ?_) | refine zs ?_ | refine zg ?_ | refine zb ?_ | refine zo ?_ | refine zt ?_ | refine zf ?_)
    refine awp_cond rfl (fun h5 => ?_) (fun h5 => ?_)
    · simp at h5
      obtain ⟨x, hx0⟩ : ∃ x, xs[i]? = some x := ⟨xs[i]'(by omega), by rw [List.getElem?_eq_getElem]⟩
      have hx2 : (xs.map Iid.av)[i]? = some (Iid.av x) := by simp [hx0]
      have hi1 : i + 1 ≤ xs.length := by omega
      have h21 : xs.length - (i + 1) < xs.length - i := by omega
      have hi0 : (i : Int) + 1 ≤ 2000001 := by omega
      have e1 := flatMap_split Iid.t xs i x hx0
      have e2 := flatMap_next Iid.t xs i x hx0
      have hl2 : ((l ++ flat (.size xs.length :: (xs.take i).flatMap Iid.t)) ++ flat (Iid.t x)).length ≤ 100000000 := by
        rw [e1] at hl0
        simp only [flat_cons, flat_app, List.length_append] at hl0 ⊢
        omega
      clear h5 hle e1
      repeat (first | ((first | refine zd ?_ | refine zx ?_ | refine zk ?_ | refine zl ?_ | refine zr ?_); refine zq ?_) | refine zs ?_ | refine zh (by simp -implicitDefEqProofs (disch := (first | omega | (simp; done) | fail)) [if_pos, if_neg, wrap_i64, tmod_pos, tdiv_pos, Int.toNat_add, hx, hx2, idl_uni, Iid.av, AV.cells, id_strip]; rfl) ?_ | refine zb ?_ | refine zo ?_ | refine zt ?_ | refine zf ?_)
      refine goes_callS (callable_of Tryz.func55) (by simp -implicitDefEqProofs (disch := (first | omega | (simp; done) | fail)) [if_pos, if_neg, wrap_i64, tmod_pos, tdiv_pos, Int.toNat_add, wv, idl_uni, Iid.av, AV.cells, id_strip] <;> first | rfl | omega) _ (one_id x _ _ wid _ _ hw hl2) ?_
      rintro _ h' ⟨rfl, F', hw', k'⟩
      replace k := k.trans k'
      clear hw k'
      have hw := hw'
      clear hw'
      refine ze ?_
      repeat (first | ((first | refine zd ?_ | refine zx ?_ | refine zk ?_ | refine zl ?_ | refine zr ?_); refine zq ?_) | refine zs ?_ | refine zg ?_ | refine zb ?_ | refine zo ?_ | refine zt ?_ | refine zf ?_)
      exact ⟨xs.length - (i + 1), h21, i + 1, h', F', rfl, hi1, by rw [e2]; simpa [Bool.or_assoc, List.append_assoc] using hw, k, st_keep' (by simp [wv]) (by simp [wv])⟩
    · simp at h5
      rw [List.take_of_length_le h5] at hw
      repeat (first | ((first | refine zd ?_ | refine zx ?_ | refine zk ?_ | refine zl ?_ | refine zr ?_); refine zq ?_) | refine zs ?_ | refine zg ?_ | refine zb ?_ | refine zo ?_ | refine zt ?_ | refine zf ?_)
      have hkl := k.1
      first | refine body_all (.inr rfl) (by simp -implicitDefEqProofs; rfl) (by simp -implicitDefEqProofs; rfl) (by first | (simp; done) | (simp; omega) | omega) ?_ | refine body_all (.inl rfl) (by simp -implicitDefEqProofs; rfl) (by simp -implicitDefEqProofs; rfl) (by first | (simp; done) | (simp; omega) | omega) ?_
      exact ⟨rfl, _, by simpa [Bool.or_assoc, List.append_assoc] using hw, k⟩
  · exact ⟨0, _, _, rfl, by omega, by simpa using hw, k, st_keep' (by simp [wv]) (by simp [wv])⟩
theorem wnums_ok (cs : List AV) (off : Nat) (hs : cs.map AV.strip = cs) (xs : List Int) (hx : cs[off]? = some (.list (xs.map iv) .no)) (hn : xs.length ≤ 2000000) : Writes 69 [.ref cs off, .func (.func 70) [] []] (listT numT xs) := by
  unfold listT
  rintro h F wid l b hw hl
  have k := Kept.refl h F
  unfold wv
  have hl0 := hl
  refine acalls_of_awp Tryz.func69 rfl (by simp only [List.length_cons, List.length_nil]; decide) ?_
  simp only [params_cons, params_nil]
  refine awp_seq ?_
  refine awp_draw (.q 0 (.q 1 (.q 2 (.q 5 (.q 6 (.q 7 (.a 3 (.q 4 (.a 8 (.q 9 (.done))))))))))) (by kernel_rfl) (by kernel_rfl) (tree_start (goesT_eq (by simp -implicitDefEqProofs (disch := (first | omega | (simp; done) | fail)) [if_pos, if_neg, wrap_i64, tmod_pos, tdiv_pos, Int.toNat_add, wv, hx]; rfl) ?_))
  refine goesT_callS (callable_of Tryz.func134) (by simp -implicitDefEqProofs (disch := (first | omega | (simp; done) | fail)) [if_pos, if_neg, wrap_i64, tmod_pos, tdiv_pos, Int.toNat_add, wv, hs] <;> first | rfl | omega) _ (msize_ok xs.length (by omega) _ _ wid _ _ hw (by simp at hl ⊢; omega)) ?_
  rintro _ h' ⟨rfl, F', hw', k'⟩
  replace k := k.trans k'
  clear hw k'
  have hw := hw'
  clear hw'
  refine zE ?_
  refine goesT_done ?_
  (try simp only [vq, if_true, reduceIte, Nat.reduceEqDiff, reduceCtorEq])
  repeat (first | ((first | refine zd ?_ | refine zx ?_ | refine zk ?_ | refine zl ?_ | refine zr ?_); refine zq ?_) | refine zs ?_ | refine zg ?_ | refine zb ?_ | refine zo ?_ | refine zt ?_ | refine zf ?_)
  refine awp_loop (fun z st => ∃ (i : Nat) (h' : AHeap) (F' : Nat → Prop), z = xs.length - i ∧ i ≤ xs.length ∧ Wd h' F' wid (l ++ flat (.size xs.length :: (xs.take i).flatMap numT)) (b || bads (.size xs.length :: (xs.take i).flatMap numT)) ∧ Kept h F h' F' ∧
    st.le ⟨Tryz.f69.ntmps, [(0, wv wid), (1, .ref cs off), (2, .func (.func 70) [] []), (7, .nilptr), (8, .bool false), (25, .int .i64 xs.length), (26, .int .i64 i)], h'⟩) xs.length ?_ ?_
  rotate_left
  · rintro z st ⟨i, h', F', rfl, hi, hw, k, hle⟩
    refine awp_le hle ?_
    unfold wv
    repeat (first | ((first | refine zd ?_ | refine zx ?_ | refine zk ?_ | refine zl ?_ | refine zr ?_); refine zq ?_) | refine zs ?_ | refine zg ?_ | refine zb ?_ | refine zo ?_ | refine zt ?_ | refine zf ?_)
    refine awp_cond rfl (fun h5 => ?_) (fun h5 => ?_)
    · simp at h5
      obtain ⟨x, hx0⟩ : ∃ x, xs[i]? = some x := ⟨xs[i]'(by omega), by rw [List.getElem?_eq_getElem]⟩
      have hx2 : (xs.map iv)[i]? = some (iv x) := by simp [hx0]
      have hi1 : i + 1 ≤ xs.length := by omega
      have h21 : xs.length - (i + 1) < xs.length - i := by omega
      have hi0 : (i : Int) + 1 ≤ 2000001 := by omega
      have e1 := flatMap_split numT xs i x hx0
      have e2 := flatMap_next numT xs i x hx0
      have hl2 : ((l ++ flat (.size xs.length :: (xs.take i).flatMap numT)) ++ flat (numT x)).length ≤ 100000000 := by
        rw [e1] at hl0
        simp only [flat_cons, flat_app, List.length_append] at hl0 ⊢
        omega
      clear h5 hle e1
      repeat (first | ((first | refine zd ?_ | refine zx ?_ | refine zk ?_ | refine zl ?_ | refine zr ?_); refine zq ?_) | refine zs ?_ | refine zh (by simp -implicitDefEqProofs (disch := (first | omega | (simp; done) | fail)) [if_pos, if_neg, wrap_i64, tmod_pos, tdiv_pos, Int.toNat_add, hx, hx2, iv_uni, AV.cells]; rfl) ?_ | refine zb ?_ | refine zo ?_ | refine zt ?_ | refine zf ?_)
      refine goes_callS (callable_of Tryz.func70) (by simp -implicitDefEqProofs (disch := (first | omega | (simp; done) | fail)) [if_pos, if_neg, wrap_i64, tmod_pos, tdiv_pos, Int.toNat_add, wv, iv_uni, AV.cells] <;> first | rfl | omega) _ (one_num x _ _ wid _ _ hw hl2) ?_
      rintro _ h' ⟨rfl, F', hw', k'⟩
      replace k := k.trans k'
      clear hw k'
      have hw := hw'
      clear hw'
      refine ze ?_
      repeat (first | ((first | refine zd ?_ | refine zx ?_ | refine zk ?_ | refine zl ?_ | refine zr ?_); refine zq ?_) | refine zs ?_ | refine zg ?_ | refine zb ?_ | refine zo ?_ | refine zt ?_ | refine zf ?_)
      exact ⟨xs.length - (i + 1), h21, i + 1, h', F', rfl, hi1, by rw [e2]; simpa [Bool.or_assoc, List.append_assoc] using hw, k, st_keep' (by simp [wv]) (by simp [wv])⟩
    · simp at h5
      rw [List.take_of_length_le h5] at hw
      repeat (first | ((first | refine zd ?_ | refine zx ?_ | refine zk ?_ | refine zl ?_ | refine zr ?_); refine zq ?_) | refine zs ?_ | refine zg ?_ | refine zb ?_ | refine zo ?_ | refine zt ?_ | refine zf ?_)
      have hkl := k.1
      first | refine body_all (.inr rfl) (by simp -implicitDefEqProofs; rfl) (by simp -implicitDefEqProofs; rfl) (by first | (simp; done) | (simp; omega) | omega) ?_ | refine body_all (.inl rfl) (by simp -implicitDefEqProofs; rfl) (by simp -implicitDefEqProofs; rfl) (by first | (simp; done) | (simp; omega) | omega) ?_
      exact ⟨rfl, _, by simpa [Bool.or_assoc, List.append_assoc] using hw, k⟩
  · exact ⟨0, _, _, rfl, by omega, by simpa using hw, k, st_keep' (by simp [wv]) (by simp [wv])⟩
theorem wtexts_ok (cs : List AV) (off : Nat) (hs : cs.map AV.strip = cs) (xs : List (List UInt8)) (hx : cs[off]? = some (.list (xs.map AV.str) .no)) (hn : xs.length ≤ 2000000) : Writes 96 [.ref cs off, .func (.func 97) [] []] (listT textT xs) := by
  unfold listT
  rintro h F wid l b hw hl
  have k := Kept.refl h F
  unfold wv
  have hl0 := hl
  refine acalls_of_awp Tryz.func96 rfl (by simp only [List.length_cons, List.length_nil]; decide) ?_
  simp only [params_cons, params_nil]
  refine awp_seq ?_
  refine awp_draw (.q 0 (.q 1 (.q 2 (.q 5 (.q 6 (.q 7 (.a 3 (.q 4 (.a 8 (.q 9 (.done))))))))))) (by kernel_rfl) (by kernel_rfl) (tree_start (goesT_eq (by simp -implicitDefEqProofs (disch := (first | omega | (simp; done) | fail)) [if_pos, if_neg, wrap_i64, tmod_pos, tdiv_pos, Int.toNat_add, wv, hx]; rfl) ?_))
  refine goesT_callS (callable_of Tryz.func134) (by simp -implicitDefEqProofs (disch := (first | omega | (simp; done) | fail)) [if_pos, if_neg, wrap_i64, tmod_pos, tdiv_pos, Int.toNat_add, wv, hs] <;> first | rfl | omega) _ (msize_ok xs.length (by omega) _ _ wid _ _ hw (by simp at hl ⊢; omega)) ?_
  rintro _ h' ⟨rfl, F', hw', k'⟩
  replace k := k.trans k'
  clear hw k'
  have hw := hw'
  clear hw'
  refine zE ?_
  refine goesT_done ?_
  (try simp only [vq, if_true, reduceIte, Nat.reduceEqDiff, reduceCtorEq])
  repeat (first | ((first | refine zd ?_ | refine zx ?_ | refine zk ?_ | refine zl ?_ | refine zr ?_); refine zq ?_) | refine zs ?_ | refine zg ?_ | refine zb ?_ | refine zo ?_ | refine zt ?_ | refine zf ?_)
  refine awp_loop (fun z st => ∃ (i : Nat) (h' : AHeap) (F' : Nat → Prop), z = xs.length - i ∧ i ≤ xs.length ∧ Wd h' F' wid (l ++ flat (.size xs.length :: (xs.take i).flatMap textT)) (b || bads (.size xs.length :: (xs.take i).flatMap textT)) ∧ Kept h F h' F' ∧
    st.le ⟨Tryz.f96.ntmps, [(0, wv wid), (1, .ref cs off), (2, .func (.func 97) [] []), (7, .nilptr), (8, .bool false), (25, .int .i64 xs.length), (26, .int .i64 i)], h'⟩) xs.length ?_ ?_
  rotate_left
  · rintro z st ⟨i, h', F', rfl, hi, hw, k, hle⟩
    refine awp_le hle ?_
    unfold wv
    repeat (first | ((first | refine zd ?_ | refine zx ?_ | refine zk ?_ | refine zl ?_ | refine zr ?_); refine zq ?_) | refine zs ?_ | refine zg ?_ | refine zb ?_ | refine zo ?_ | refine zt ?_ | refine zf ?_)
    refine awp_cond rfl (fun h5 => ?_) (fun h5 => ?_)
    · simp at h5
      obtain ⟨x, hx0⟩ : ∃ x, xs[i]? = some x := ⟨xs[i]'(by omega), by rw [List.getElem?_eq_getElem]⟩
      have hx2 : (xs.map AV.str)[i]? = some (AV.str x) := by simp [hx0]
      have hi1 : i + 1 ≤ xs.length := by omega
      have h21 : xs.length - (i + 1) < xs.length - i := by omega
      have hi0 : (i : Int) + 1 ≤ 2000001 := by omega
      have e1 := flatMap_split textT xs i x hx0
      have e2 := flatMap_next textT xs i x hx0
      have hl2 : ((l ++ flat (.size xs.length :: (xs.take i).flatMap textT)) ++ flat (textT x)).length ≤ 100000000 := by
        rw [e1] at hl0
        simp only [flat_cons, flat_app, List.length_append] at hl0 ⊢
        omega
      clear h5 hle e1
      repeat (first | ((first | refine zd ?_ | refine zx ?_ | refine zk ?_ | refine zl ?_ | refine zr ?_); refine zq ?_) | refine zs ?_ | refine zh (by simp -implicitDefEqProofs (disch := (first | omega | (simp; done) | fail)) [if_pos, if_neg, wrap_i64, tmod_pos, tdiv_pos, Int.toNat_add, hx, hx2, str_uni, AV.cells]; rfl) ?_ | refine zb ?_ | refine zo ?_ | refine zt ?_ | refine zf ?_)
      refine goes_callS (callable_of Tryz.func97) (by simp -implicitDefEqProofs (disch := (first | omega | (simp; done) | fail)) [if_pos, if_neg, wrap_i64, tmod_pos, tdiv_pos, Int.toNat_add, wv, str_uni, AV.cells] <;> first | rfl | omega) _ (one_text x _ _ wid _ _ hw hl2) ?_
      rintro _ h' ⟨rfl, F', hw', k'⟩
      replace k := k.trans k'
      clear hw k'
      have hw := hw'
      clear hw'
      refine ze ?_
      repeat (first | ((first | refine zd ?_ | refine zx ?_ | refine zk ?_ | refine zl ?_ | refine zr ?_); refine zq ?_) | refine zs ?_ | refine zg ?_ | refine zb ?_ | refine zo ?_ | refine zt ?_ | refine zf ?_)
      exact ⟨xs.length - (i + 1), h21, i + 1, h', F', rfl, hi1, by rw [e2]; simpa [Bool.or_assoc, List.append_assoc] using hw, k, st_keep' (by simp [wv]) (by simp [wv])⟩
    · simp at h5
      rw [List.take_of_length_le h5] at hw
      repeat (first | ((first | refine zd ?_ | refine zx ?_ | refine zk ?_ | refine zl ?_ | refine zr ?_); refine zq ?_) | refine zs ?_ | refine zg ?_ | refine zb ?_ | refine zo ?_ | refine zt ?_ | refine zf ?_)
      have hkl := k.1
      first | refine body_all (.inr rfl) (by simp -implicitDefEqProofs; rfl) (by simp -implicitDefEqProofs; rfl) (by first | (simp; done) | (simp; omega) | omega) ?_ | refine body_all (.inl rfl) (by simp -implicitDefEqProofs; rfl) (by simp -implicitDefEqProofs; rfl) (by first | (simp; done) | (simp; omega) | omega) ?_
      exact ⟨rfl, _, by simpa [Bool.or_assoc, List.append_assoc] using hw, k⟩
  · exact ⟨0, _, _, rfl, by omega, by simpa using hw, k, st_keep' (by simp [wv]) (by simp [wv])⟩
theorem wentries_ok (cs : List AV) (off : Nat) (hs : cs.map AV.strip = cs) (xs : List Entry) (hx : cs[off]? = some (.list (xs.map Entry.av) .no)) (hn : xs.length ≤ 2000000) : Writes 71 [.ref cs off, .func (.func 72) [] []] (listT Entry.t xs) := by
  unfold listT
  rintro h F wid l b hw hl
  have k := Kept.refl h F
  unfold wv
  have hl0 := hl
  refine acalls_of_awp Tryz.func71 rfl (by simp only [List.length_cons, List.length_nil]; decide) ?_
  simp only [params_cons, params_nil]
  refine awp_seq ?_
  refine awp_draw (.q 0 (.q 1 (.q 2 (.q 5 (.q 6 (.q 7 (.a 3 (.q 4 (.a 8 (.q 9 (.done))))))))))) (by kernel_rfl) (by kernel_rfl) (tree_start (goesT_eq (by simp -implicitDefEqProofs (disch := (first | omega | (simp; done) | fail)) [if_pos, if_neg, wrap_i64, tmod_pos, tdiv_pos, Int.toNat_add, wv, hx]; rfl) ?_))
  refine goesT_callS (callable_of Tryz.func134) (by simp -implicitDefEqProofs (disch := (first | omega | (simp; done) | fail)) [if_pos, if_neg, wrap_i64, tmod_pos, tdiv_pos, Int.toNat_add, wv, hs] <;> first | rfl | omega) _ (msize_ok xs.length (by omega) _ _ wid _ _ hw (by simp at hl ⊢; omega)) ?_
  rintro _ h' ⟨rfl, F', hw', k'⟩
  replace k := k.trans k'
  clear hw k'
  have hw := hw'
  clear hw'
  refine zE ?_
  refine goesT_done ?_
  (try simp only [vq, if_true, reduceIte, Nat.reduceEqDiff, reduceCtorEq])
  repeat (first | ((first | refine zd ?_ | refine zx ?_ | refine zk ?_ | refine zl ?_ | refine zr ?_); refine zq ?_) | refine zs ?_ | refine zg ?_ | refine zb ?_ | refine zo ?_ | refine zt ?_ | refine zf ?_)
  refine awp_loop (fun z st => ∃ (i : Nat) (h' : AHeap) (F' : Nat → Prop), z = xs.length - i ∧ i ≤ xs.length ∧ Wd h' F' wid (l ++ flat (.size xs.length :: (xs.take i).flatMap Entry.t)) (b || bads (.size xs.length :: (xs.take i).flatMap Entry.t)) ∧ Kept h F h' F' ∧
    st.le ⟨Tryz.f71.ntmps, [(0, wv wid), (1, .ref cs off), (2, .func (.func 72) [] []), (7, .nilptr), (8, .bool false), (25, .int .i64 xs.length), (26, .int .i64 i)], h'⟩) xs.length ?_ ?_
  rotate_left
  · rintro z st ⟨i, h', F', rfl, hi, hw, k, hle⟩
    refine awp_le hle ?_
    unfold wv
    repeat (first | ((first | refine zd ?_ | refine zx ?_ | refine zk ?_ | refine zl ?_ | refine zr ?_); refine zq ?_) | refine zs ?_ | refine zg ?_ | refine zb ?_ | refine zo ?_ | refine zt ?_ | refine zf ?_)
    refine awp_cond rfl (fun h5 => ?_) (fun h5 => ?_)
    · simp at h5
      obtain ⟨x, hx0⟩ : ∃ x, xs[i]? = some x := ⟨xs[i]'(by omega), by rw [List.getElem?_eq_getElem]⟩
      have hx2 : (xs.map Entry.av)[i]? = some (Entry.av x) := by simp [hx0]
      have hi1 : i + 1 ≤ xs.length := by omega
      have h21 : xs.length - (i + 1) < xs.length - i := by omega
      have hi0 : (i : Int) + 1 ≤ 2000001 := by omega
      have e1 := flatMap_split Entry.t xs i x hx0
      have e2 := flatMap_next Entry.t xs i x hx0
      have hl2 : ((l ++ flat (.size xs.length :: (xs.take i).flatMap Entry.t)) ++ flat (Entry.t x)).length ≤ 100000000 := by
        rw [e1] at hl0
        simp only [flat_cons, flat_app, List.length_append] at hl0 ⊢
        omega
      clear h5 hle e1
      repeat (first | ((first | refine zd ?_ | refine zx ?_ | refine zk ?_ | refine zl ?_ | refine zr ?_); refine zq ?_) | refine zs ?_ | refine zh (by simp -implicitDefEqProofs (disch := (first | omega | (simp; done) | fail)) [if_pos, if_neg, wrap_i64, tmod_pos, tdiv_pos, Int.toNat_add, hx, hx2, entl_uni, Entry.av, AV.cells, ent_strip]; rfl) ?_ | refine zb ?_ | refine zo ?_ | refine zt ?_ | refine zf ?_)
      refine goes_callS (callable_of Tryz.func72) (by simp -implicitDefEqProofs (disch := (first | omega | (simp; done) | fail)) [if_pos, if_neg, wrap_i64, tmod_pos, tdiv_pos, Int.toNat_add, wv, entl_uni, Entry.av, AV.cells, ent_strip] <;> first | rfl | omega) _ (one_entry x _ _ wid _ _ hw hl2) ?_
      rintro _ h' ⟨rfl, F', hw', k'⟩
      replace k := k.trans k'
      clear hw k'
      have hw := hw'
      clear hw'
      refine ze ?_
      repeat (first | ((first | refine zd ?_ | refine zx ?_ | refine zk ?_ | refine zl ?_ | refine zr ?_); refine zq ?_) | refine zs ?_ | refine zg ?_ | refine zb ?_ | refine zo ?_ | refine zt ?_ | refine zf ?_)
      exact ⟨xs.length - (i + 1), h21, i + 1, h', F', rfl, hi1, by rw [e2]; simpa [Bool.or_assoc, List.append_assoc] using hw, k, st_keep' (by simp [wv]) (by simp [wv])⟩
    · simp at h5
      rw [List.take_of_length_le h5] at hw
      repeat (first | ((first | refine zd ?_ | refine zx ?_ | refine zk ?_ | refine zl ?_ | refine zr ?_); refine zq ?_) | refine zs ?_ | refine zg ?_ | refine zb ?_ | refine zo ?_ | refine zt ?_ | refine zf ?_)
      have hkl := k.1
      first | refine body_all (.inr rfl) (by simp -implicitDefEqProofs; rfl) (by simp -implicitDefEqProofs; rfl) (by first | (simp; done) | (simp; omega) | omega) ?_ | refine body_all (.inl rfl) (by simp -implicitDefEqProofs; rfl) (by simp -implicitDefEqProofs; rfl) (by first | (simp; done) | (simp; omega) | omega) ?_
      exact ⟨rfl, _, by simpa [Bool.or_assoc, List.append_assoc] using hw, k⟩
  · exact ⟨0, _, _, rfl, by omega, by simpa using hw, k, st_keep' (by simp [wv]) (by simp [wv])⟩
end Go.Proofs.YtdncoobpdllpkaaGreat.D

/- Messages as bytes: sessions, snaps, instances, messages are written. -/
set_option linter.unusedVariables false
set_option linter.unusedSimpArgs false
set_option maxRecDepth 20000
namespace Go.Proofs.YtdncoobpdllpkaaGreat.D
open Go Go.Proofs.YtdncoobpdllpkaaGreat.V Go.Proofs.YtdncoobpdllpkaaGreat.N
theorem wreply_ok (cs : List AV) (off : Nat) (hs : cs.map AV.strip = cs) (x : Reply) (hp : At cs off 0 x.c) (hn : x.names.length ≤ 2000000) : Writes 87 [.ref cs off] x.t := by
  simp only [At, Reply.c, Nat.add_zero, Nat.zero_add, Nat.reduceAdd] at hp
  obtain ⟨p0, p1, p2, p3, -⟩ := hp
  unfold Reply.t
  rintro h F wid l b hw hl
  have k := Kept.refl h F
  unfold wv
  refine acalls_of_awp Tryz.func87 rfl (by simp only [List.length_cons, List.length_nil]; decide) ?_
  simp only [params_cons, params_nil]
  repeat (first | ((first | refine zd ?_ | refine zx ?_ | refine zk ?_ | refine zl ?_ | refine zr ?_); refine zq ?_) | refine zs ?_ | refine zg ?_ | refine zb ?_ | refine zo ?_ | refine zt ?_ | refine zf ?_)
  refine goes_callS (callable_of Tryz.func95) (by simp -implicitDefEqProofs (disch := (first | omega | (simp; done) | fail)) [if_pos, if_neg, wrap_i64, tmod_pos, tdiv_pos, Int.toNat_add, wv, hs] <;> first | rfl | omega) _ (asErr_ok cs off hs x.err p0 _ _ wid _ _ hw (by simp at hl ⊢; omega)) ?_
  rintro _ h' ⟨rfl, F', hw', k'⟩
  replace k := k.trans k'
  clear hw k'
  have hw := hw'
  clear hw'
  refine ze ?_
  (refine goes_done ?_; (try simp only [vq, if_true, reduceIte, Nat.reduceEqDiff, reduceCtorEq]))
  (try refine awp_seq ?_)
  refine awp_draw (.q 0 (.q 1 (.q 2 (.q 3 (.q 4 (.q 5 (.q 6 (.a 7 (.done))))))))) (by kernel_rfl) (by kernel_rfl) (tree_start (goesT_eq (by simp -implicitDefEqProofs (disch := (first | omega | (simp; done) | fail)) [if_pos, if_neg, wrap_i64, tmod_pos, tdiv_pos, Int.toNat_add, wv]; rfl) ?_))
  refine goesT_callS (callable_of Tryz.func135) (by simp -implicitDefEqProofs (disch := (first | omega | (simp; done) | fail)) [if_pos, if_neg, wrap_i64, tmod_pos, tdiv_pos, Int.toNat_add, wv, hs] <;> first | rfl | omega) _ (mtext_ok cs (off + 1) x.value p1 _ _ wid _ _ hw (by simp at hl ⊢; omega)) ?_
  rintro _ h' ⟨rfl, F', hw', k'⟩
  replace k := k.trans k'
  clear hw k'
  have hw := hw'
  clear hw'
  refine zE ?_
  refine goesT_done ?_
  (try simp only [vq, if_true, reduceIte, Nat.reduceEqDiff, reduceCtorEq])
  (try refine awp_seq ?_)
  refine awp_draw (.q 0 (.q 1 (.q 2 (.q 3 (.q 4 (.q 5 (.q 6 (.a 7 (.done))))))))) (by kernel_rfl) (by kernel_rfl) (tree_start (goesT_eq (by simp -implicitDefEqProofs (disch := (first | omega | (simp; done) | fail)) [if_pos, if_neg, wrap_i64, tmod_pos, tdiv_pos, Int.toNat_add, wv]; rfl) ?_))
  refine goesT_callS (callable_of Tryz.func33) (by simp -implicitDefEqProofs (disch := (first | omega | (simp; done) | fail)) [if_pos, if_neg, wrap_i64, tmod_pos, tdiv_pos, Int.toNat_add, wv, hs] <;> first | rfl | omega) _ (mnum_ok cs (off + 2) x.version p2 _ _ wid _ _ hw (by simp at hl ⊢; omega)) ?_
  rintro _ h' ⟨rfl, F', hw', k'⟩
  replace k := k.trans k'
  clear hw k'
  have hw := hw'
  clear hw'
  refine zE ?_
  refine goesT_done ?_
  (try simp only [vq, if_true, reduceIte, Nat.reduceEqDiff, reduceCtorEq])
  repeat (first | ((first | refine zd ?_ | refine zx ?_ | refine zk ?_ | refine zl ?_ | refine zr ?_); refine zq ?_) | refine zs ?_ | refine zg ?_ | refine zb ?_ | refine zo ?_ | refine zt ?_ | refine zf ?_)
  refine goes_callS (callable_of Tryz.func96) (by simp -implicitDefEqProofs (disch := (first | omega | (simp; done) | fail)) [if_pos, if_neg, wrap_i64, tmod_pos, tdiv_pos, Int.toNat_add, wv, hs] <;> first | rfl | omega) _ (wtexts_ok cs (off + 3) hs x.names p3 hn _ _ wid _ _ hw (by simp at hl ⊢; omega)) ?_
  rintro _ h' ⟨rfl, F', hw', k'⟩
  replace k := k.trans k'
  clear hw k'
  have hw := hw'
  clear hw'
  refine ze ?_
  (refine goes_done ?_; (try simp only [vq, if_true, reduceIte, Nat.reduceEqDiff, reduceCtorEq]))
  have hkl := k.1
  first | refine body_all (.inr rfl) (by simp -implicitDefEqProofs; rfl) (by simp -implicitDefEqProofs; rfl) (by first | (simp; done) | (simp; omega) | omega) ?_ | refine body_all (.inl rfl) (by simp -implicitDefEqProofs; rfl) (by simp -implicitDefEqProofs; rfl) (by first | (simp; done) | (simp; omega) | omega) ?_
  exact ⟨rfl, _, by simpa [Bool.or_assoc, List.append_assoc] using hw, k⟩
theorem wsession_ok (cs : List AV) (off : Nat) (hs : cs.map AV.strip = cs) (x : Sess) (hp : At cs off 0 x.c) (hn : x.reply.names.length ≤ 2000000) : Writes 74 [.ref cs off] x.t := by
  simp only [At, Sess.c, Nat.add_zero, Nat.zero_add, Nat.reduceAdd] at hp
  obtain ⟨p0, p1, p2, p3, p4, p5, -⟩ := hp
  unfold Sess.t
  rintro h F wid l b hw hl
  have k := Kept.refl h F
  unfold wv
  refine acalls_of_awp Tryz.func74 rfl (by simp only [List.length_cons, List.length_nil]; decide) ?_
  simp only [params_cons, params_nil]
  (try refine awp_seq ?_)
  refine awp_draw (.q 0 (.q 1 (.q 2 (.q 3 (.q 4 (.q 5 (.q 6 (.a 7 (.done))))))))) (by kernel_rfl) (by kernel_rfl) (tree_start (goesT_eq (by simp -implicitDefEqProofs (disch := (first | omega | (simp; done) | fail)) [if_pos, if_neg, wrap_i64, tmod_pos, tdiv_pos, Int.toNat_add, wv]; rfl) ?_))
  refine goesT_callS (callable_of Tryz.func33) (by simp -implicitDefEqProofs (disch := (first | omega | (simp; done) | fail)) [if_pos, if_neg, wrap_i64, tmod_pos, tdiv_pos, Int.toNat_add, wv, hs] <;> first | rfl | omega) _ (mnum_ok cs off x.client p0 _ _ wid _ _ hw (by simp at hl ⊢; omega)) ?_
  rintro _ h' ⟨rfl, F', hw', k'⟩
  replace k := k.trans k'
  clear hw k'
  have hw := hw'
  clear hw'
  refine zE ?_
  refine goesT_done ?_
  (try simp only [vq, if_true, reduceIte, Nat.reduceEqDiff, reduceCtorEq])
  (try refine awp_seq ?_)
  refine awp_draw (.q 0 (.q 1 (.q 2 (.q 3 (.q 4 (.q 5 (.q 6 (.a 7 (.done))))))))) (by kernel_rfl) (by kernel_rfl) (tree_start (goesT_eq (by simp -implicitDefEqProofs (disch := (first | omega | (simp; done) | fail)) [if_pos, if_neg, wrap_i64, tmod_pos, tdiv_pos, Int.toNat_add, wv]; rfl) ?_))
  refine goesT_callS (callable_of Tryz.func33) (by simp -implicitDefEqProofs (disch := (first | omega | (simp; done) | fail)) [if_pos, if_neg, wrap_i64, tmod_pos, tdiv_pos, Int.toNat_add, wv, hs] <;> first | rfl | omega) _ (mnum_ok cs (off + 1) x.seq p1 _ _ wid _ _ hw (by simp at hl ⊢; omega)) ?_
  rintro _ h' ⟨rfl, F', hw', k'⟩
  replace k := k.trans k'
  clear hw k'
  have hw := hw'
  clear hw'
  refine zE ?_
  refine goesT_done ?_
  (try simp only [vq, if_true, reduceIte, Nat.reduceEqDiff, reduceCtorEq])
  repeat (first | ((first | refine zd ?_ | refine zx ?_ | refine zk ?_ | refine zl ?_ | refine zr ?_); refine zq ?_) | refine zs ?_ | refine zg ?_ | refine zb ?_ | refine zo ?_ | refine zt ?_ | refine zf ?_)
  refine goes_callS (callable_of Tryz.func87) (by simp -implicitDefEqProofs (disch := (first | omega | (simp; done) | fail)) [if_pos, if_neg, wrap_i64, tmod_pos, tdiv_pos, Int.toNat_add, wv, hs] <;> first | rfl | omega) _ (wreply_ok cs (off + 2) hs x.reply ⟨p2, p3, p4, p5, trivial⟩ hn _ _ wid _ _ hw (by simp at hl ⊢; omega)) ?_
  rintro _ h' ⟨rfl, F', hw', k'⟩
  replace k := k.trans k'
  clear hw k'
  have hw := hw'
  clear hw'
  refine ze ?_
  (refine goes_done ?_; (try simp only [vq, if_true, reduceIte, Nat.reduceEqDiff, reduceCtorEq]))
  have hkl := k.1
  first | refine body_all (.inr rfl) (by simp -implicitDefEqProofs; rfl) (by simp -implicitDefEqProofs; rfl) (by first | (simp; done) | (simp; omega) | omega) ?_ | refine body_all (.inl rfl) (by simp -implicitDefEqProofs; rfl) (by simp -implicitDefEqProofs; rfl) (by first | (simp; done) | (simp; omega) | omega) ?_
  exact ⟨rfl, _, by simpa [Bool.or_assoc, List.append_assoc] using hw, k⟩
theorem ses_strip (x : Sess) : x.c.map AV.strip = x.c := by
  have : AV.strip ∘ AV.str = AV.str := s_comp fun x => by simp
  simp [Sess.c, this]
theorem one_session (x : Sess) (hn : x.reply.names.length ≤ 2000000) : Writes 74 [.ref x.c 0] x.t := wsession_ok x.c 0 (ses_strip x) x (At.self _ _ 0 rfl) hn
theorem wsessions_ok (cs : List AV) (off : Nat) (hs : cs.map AV.strip = cs) (xs : List Sess) (hnn : ∀ x ∈ xs, x.reply.names.length ≤ 2000000) (hx : cs[off]? = some (.list (xs.map Sess.av) .no)) (hn : xs.length ≤ 2000000) : Writes 73 [.ref cs off, .func (.func 74) [] []] (listT Sess.t xs) := by
  unfold listT
  rintro h F wid l b hw hl
  have k := Kept.refl h F
  unfold wv
  have hl0 := hl
  refine acalls_of_awp Tryz.func73 rfl (by simp only [List.length_cons, List.length_nil]; decide) ?_
  simp only [params_cons, params_nil]
  refine awp_seq ?_
  refine awp_draw (.q 0 (.q 1 (.q 2 (.q 5 (.q 6 (.q 7 (.a 3 (.q 4 (.a 8 (.q 9 (.done))))))))))) (by kernel_rfl) (by kernel_rfl) (tree_start (goesT_eq (by simp -implicitDefEqProofs (disch := (first | omega | (simp; done) | fail)) [if_pos, if_neg, wrap_i64, tmod_pos, tdiv_pos, Int.toNat_add, wv, hx]; rfl) ?_))
  refine goesT_callS (callable_of Tryz.func134) (by simp -implicitDefEqProofs (disch := (first | omega | (simp; done) | fail)) [if_pos, if_neg, wrap_i64, tmod_pos, tdiv_pos, Int.toNat_add, wv, hs] <;> first | rfl | omega) _ (msize_ok xs.length (by omega) _ _ wid _ _ hw (by simp at hl ⊢; omega)) ?_
  rintro _ h' ⟨rfl, F', hw', k'⟩
  replace k := k.trans k'
  clear hw k'
  have hw := hw'
  clear hw'
  refine zE ?_
  refine goesT_done ?_
  (try simp only [vq, if_true, reduceIte, Nat.reduceEqDiff, reduceCtorEq])
  repeat (first | ((first | refine zd ?_ | refine zx ?_ | refine zk ?_ | refine zl ?_ | refine zr ?_); refine zq ?_) | refine zs ?_ | refine zg ?_ | refine zb ?_ | refine zo ?_ | refine zt ?_ | refine zf ?_)
  refine awp_loop (fun z st => ∃ (i : Nat) (h' : AHeap) (F' : Nat → Prop), z = xs.length - i ∧ i ≤ xs.length ∧ Wd h' F' wid (l ++ flat (.size xs.length :: (xs.take i).flatMap Sess.t)) (b || bads (.size xs.length :: (xs.take i).flatMap Sess.t)) ∧ Kept h F h' F' ∧
    st.le ⟨Tryz.f73.ntmps, [(0, wv wid), (1, .ref cs off), (2, .func (.func 74) [] []), (7, .nilptr), (8, .bool false), (25, .int .i64 xs.length), (26, .int .i64 i)], h'⟩) xs.length ?_ ?_
  rotate_left
  · rintro z st ⟨i, h', F', rfl, hi, hw, k, hle⟩
    refine awp_le hle ?_
    unfold wv
    repeat (first | ((first | refine zd ?_ | refine zx ?_ | refine zk ?_ | refine zl ?_ | refine zr ?_); refine zq ?_) | refine zs ?_ | refine zg ?_ | refine zb ?_ | refine zo ?_ | refine zt ?_ | refine zf ?_)
    refine awp_cond rfl (fun h5 => ?_) (fun h5 => ?_)
    · simp at h5
      obtain ⟨x, hx0⟩ : ∃ x, xs[i]? = some x := ⟨xs[i]'(by omega), by rw [List.getElem?_eq_getElem]⟩
      have hx2 : (xs.map Sess.av)[i]? = some (Sess.av x) := by simp [hx0]
      have hi1 : i + 1 ≤ xs.length := by omega
      have h21 : xs.length - (i + 1) < xs.length - i := by omega
      have hi0 : (i : Int) + 1 ≤ 2000001 := by omega
      have hnx := hnn x (List.mem_of_getElem? hx0)
      have e1 := flatMap_split Sess.t xs i x hx0
      have e2 := flatMap_next Sess.t xs i x hx0
      have hl2 : ((l ++ flat (.size xs.length :: (xs.take i).flatMap Sess.t)) ++ flat (Sess.t x)).length ≤ 100000000 := by
        rw [e1] at hl0
        simp only [flat_cons, flat_app, List.length_append] at hl0 ⊢
        omega
      clear h5 hle e1
      repeat (first | ((first | refine zd ?_ | refine zx ?_ | refine zk ?_ | refine zl ?_ | refine zr ?_); refine zq ?_) | refine zs ?_ | refine zh (by simp -implicitDefEqProofs (disch := (first | omega | (simp; done) | fail)) [if_pos, if_neg, wrap_i64, tmod_pos, tdiv_pos, Int.toNat_add, hx, hx2, sesl_uni, Sess.av, AV.cells]; rfl) ?_ | refine zb ?_ | refine zo ?_ | refine zt ?_ | refine zf ?_)
      refine goes_callS (callable_of Tryz.func74) (by simp -implicitDefEqProofs (disch := (first | omega | (simp; done) | fail)) [if_pos, if_neg, wrap_i64, tmod_pos, tdiv_pos, Int.toNat_add, wv, ses_strip] <;> first | rfl | omega) _ (one_session x hnx _ _ wid _ _ hw hl2) ?_
      rintro _ h' ⟨rfl, F', hw', k'⟩
      replace k := k.trans k'
      clear hw k'
      have hw := hw'
      clear hw'
      refine ze ?_
      repeat (first | ((first | refine zd ?_ | refine zx ?_ | refine zk ?_ | refine zl ?_ | refine zr ?_); refine zq ?_) | refine zs ?_ | refine zg ?_ | refine zb ?_ | refine zo ?_ | refine zt ?_ | refine zf ?_)
      exact ⟨xs.length - (i + 1), h21, i + 1, h', F', rfl, hi1, by rw [e2]; simpa [Bool.or_assoc, List.append_assoc] using hw, k, st_keep' (by simp [wv]) (by simp [wv])⟩
    · simp at h5
      rw [List.take_of_length_le h5] at hw
      repeat (first | ((first | refine zd ?_ | refine zx ?_ | refine zk ?_ | refine zl ?_ | refine zr ?_); refine zq ?_) | refine zs ?_ | refine zg ?_ | refine zb ?_ | refine zo ?_ | refine zt ?_ | refine zf ?_)
      have hkl := k.1
      first | refine body_all (.inr rfl) (by simp -implicitDefEqProofs; rfl) (by simp -implicitDefEqProofs; rfl) (by first | (simp; done) | (simp; omega) | omega) ?_ | refine body_all (.inl rfl) (by simp -implicitDefEqProofs; rfl) (by simp -implicitDefEqProofs; rfl) (by first | (simp; done) | (simp; omega) | omega) ?_
      exact ⟨rfl, _, by simpa [Bool.or_assoc, List.append_assoc] using hw, k⟩
  · exact ⟨0, _, _, rfl, by omega, by simpa using hw, k, st_keep' (by simp [wv]) (by simp [wv])⟩
structure Snap.Few (x : Snap) : Prop where
  nodes : x.nodes.length ≤ 2000000
  paths : x.paths.length ≤ 2000000
  sess : x.sessions.length ≤ 2000000
  names : ∀ s ∈ x.sessions, s.reply.names.length ≤ 2000000
theorem wsnap_ok (cs : List AV) (off : Nat) (hs : cs.map AV.strip = cs) (x : Snap) (hp : At cs off 0 x.c) (hf : x.Few) : Writes 54 [.ref cs off] x.t := by
  simp only [At, Snap.c, Nat.add_zero, Nat.zero_add, Nat.reduceAdd] at hp
  obtain ⟨p0, p1, p2, p3, -⟩ := hp
  unfold Snap.t
  rintro h F wid l b hw hl
  have k := Kept.refl h F
  unfold wv
  refine acalls_of_awp Tryz.func54 rfl (by simp only [List.length_cons, List.length_nil]; decide) ?_
  simp only [params_cons, params_nil]
  (try refine awp_seq ?_)
  refine awp_draw (.q 0 (.q 1 (.q 2 (.q 3 (.q 4 (.q 5 (.q 6 (.q 7 (.a 8 (.done)))))))))) (by kernel_rfl) (by kernel_rfl) (tree_start (goesT_eq (by simp -implicitDefEqProofs (disch := (first | omega | (simp; done) | fail)) [if_pos, if_neg, wrap_i64, tmod_pos, tdiv_pos, Int.toNat_add, wv]; rfl) ?_))
  refine goesT_callS (callable_of Tryz.func33) (by simp -implicitDefEqProofs (disch := (first | omega | (simp; done) | fail)) [if_pos, if_neg, wrap_i64, tmod_pos, tdiv_pos, Int.toNat_add, wv, hs] <;> first | rfl | omega) _ (mnum_ok cs off x.epoch p0 _ _ wid _ _ hw (by simp at hl ⊢; omega)) ?_
  rintro _ h' ⟨rfl, F', hw', k'⟩
  replace k := k.trans k'
  clear hw k'
  have hw := hw'
  clear hw'
  refine zE ?_
  refine goesT_done ?_
  (try simp only [vq, if_true, reduceIte, Nat.reduceEqDiff, reduceCtorEq])
  repeat (first | ((first | refine zd ?_ | refine zx ?_ | refine zk ?_ | refine zl ?_ | refine zr ?_); refine zq ?_) | refine zs ?_ | refine zg ?_ | refine zb ?_ | refine zo ?_ | refine zt ?_ | refine zf ?_)
  refine goes_callS (callable_of Tryz.func69) (by simp -implicitDefEqProofs (disch := (first | omega | (simp; done) | fail)) [if_pos, if_neg, wrap_i64, tmod_pos, tdiv_pos, Int.toNat_add, wv, hs] <;> first | rfl | omega) _ (wnums_ok cs (off + 1) hs x.nodes p1 hf.nodes _ _ wid _ _ hw (by simp at hl ⊢; omega)) ?_
  rintro _ h' ⟨rfl, F', hw', k'⟩
  replace k := k.trans k'
  clear hw k'
  have hw := hw'
  clear hw'
  refine ze ?_
  (refine goes_done ?_; (try simp only [vq, if_true, reduceIte, Nat.reduceEqDiff, reduceCtorEq]))
  repeat (first | ((first | refine zd ?_ | refine zx ?_ | refine zk ?_ | refine zl ?_ | refine zr ?_); refine zq ?_) | refine zs ?_ | refine zg ?_ | refine zb ?_ | refine zo ?_ | refine zt ?_ | refine zf ?_)
  refine goes_callS (callable_of Tryz.func71) (by simp -implicitDefEqProofs (disch := (first | omega | (simp; done) | fail)) [if_pos, if_neg, wrap_i64, tmod_pos, tdiv_pos, Int.toNat_add, wv, hs] <;> first | rfl | omega) _ (wentries_ok cs (off + 2) hs x.paths p2 hf.paths _ _ wid _ _ hw (by simp at hl ⊢; omega)) ?_
  rintro _ h' ⟨rfl, F', hw', k'⟩
  replace k := k.trans k'
  clear hw k'
  have hw := hw'
  clear hw'
  refine ze ?_
  (refine goes_done ?_; (try simp only [vq, if_true, reduceIte, Nat.reduceEqDiff, reduceCtorEq]))
  repeat (first | ((first | refine zd ?_ | refine zx ?_ | refine zk ?_ | refine zl ?_ | refine zr ?_); refine zq ?_) | refine zs ?_ | refine zg ?_ | refine zb ?_ | refine zo ?_ | refine zt ?_ | refine zf ?_)
  refine goes_callS (callable_of Tryz.func73) (by simp -implicitDefEqProofs (disch := (first | omega | (simp; done) | fail)) [if_pos, if_neg, wrap_i64, tmod_pos, tdiv_pos, Int.toNat_add, wv, hs] <;> first | rfl | omega) _ (wsessions_ok cs (off + 3) hs x.sessions hf.names p3 hf.sess _ _ wid _ _ hw (by simp at hl ⊢; omega)) ?_
  rintro _ h' ⟨rfl, F', hw', k'⟩
  replace k := k.trans k'
  clear hw k'
  have hw := hw'
  clear hw'
  refine ze ?_
  (refine goes_done ?_; (try simp only [vq, if_true, reduceIte, Nat.reduceEqDiff, reduceCtorEq]))
  have hkl := k.1
  first | refine body_all (.inr rfl) (by simp -implicitDefEqProofs; rfl) (by simp -implicitDefEqProofs; rfl) (by first | (simp; done) | (simp; omega) | omega) ?_ | refine body_all (.inl rfl) (by simp -implicitDefEqProofs; rfl) (by simp -implicitDefEqProofs; rfl) (by first | (simp; done) | (simp; omega) | omega) ?_
  exact ⟨rfl, _, by simpa [Bool.or_assoc, List.append_assoc] using hw, k⟩
theorem winst_ok (cs : List AV) (off : Nat) (hs : cs.map AV.strip = cs) (x : Inst) (hp : At cs off 0 x.c) (hn : x.deps.length ≤ 2000000) : Writes 56 [.ref cs off] x.t := by
  simp only [At, Inst.c, Nat.add_zero, Nat.zero_add, Nat.reduceAdd] at hp
  obtain ⟨p0, p1, p2, p3, p4, p5, p6, p7, p8, p9, p10, p11, p12, p13, p14, -⟩ := hp
  unfold Inst.t
  rintro h F wid l b hw hl
  have k := Kept.refl h F
  unfold wv
  refine acalls_of_awp Tryz.func56 rfl (by simp only [List.length_cons, List.length_nil]; decide) ?_
  simp only [params_cons, params_nil]
  repeat (first | ((first | refine zd ?_ | refine zx ?_ | refine zk ?_ | refine zl ?_ | refine zr ?_); refine zq ?_) | refine zs ?_ | refine zg ?_ | refine zb ?_ | refine zo ?_ | refine zt ?_ | refine zf ?_)
  refine goes_callS (callable_of Tryz.func75) (by simp -implicitDefEqProofs (disch := (first | omega | (simp; done) | fail)) [if_pos, if_neg, wrap_i64, tmod_pos, tdiv_pos, Int.toNat_add, wv, hs] <;> first | rfl | omega) _ (asStatus_ok cs off hs x.status p0 _ _ wid _ _ hw (by simp at hl ⊢; omega)) ?_
  rintro _ h' ⟨rfl, F', hw', k'⟩
  replace k := k.trans k'
  clear hw k'
  have hw := hw'
  clear hw'
  refine ze ?_
  (refine goes_done ?_; (try simp only [vq, if_true, reduceIte, Nat.reduceEqDiff, reduceCtorEq]))
  repeat (first | ((first | refine zd ?_ | refine zx ?_ | refine zk ?_ | refine zl ?_ | refine zr ?_); refine zq ?_) | refine zs ?_ | refine zg ?_ | refine zb ?_ | refine zo ?_ | refine zt ?_ | refine zf ?_)
  refine goes_callS (callable_of Tryz.func76) (by simp -implicitDefEqProofs (disch := (first | omega | (simp; done) | fail)) [if_pos, if_neg, wrap_i64, tmod_pos, tdiv_pos, Int.toNat_add, wv, hs] <;> first | rfl | omega) _ (wballot_ok cs (off + 1) hs x.promise ⟨p1, p2, trivial⟩ _ _ wid _ _ hw (by simp at hl ⊢; omega)) ?_
  rintro _ h' ⟨rfl, F', hw', k'⟩
  replace k := k.trans k'
  clear hw k'
  have hw := hw'
  clear hw'
  refine ze ?_
  (refine goes_done ?_; (try simp only [vq, if_true, reduceIte, Nat.reduceEqDiff, reduceCtorEq]))
  repeat (first | ((first | refine zd ?_ | refine zx ?_ | refine zk ?_ | refine zl ?_ | refine zr ?_); refine zq ?_) | refine zs ?_ | refine zg ?_ | refine zb ?_ | refine zo ?_ | refine zt ?_ | refine zf ?_)
  refine goes_callS (callable_of Tryz.func76) (by simp -implicitDefEqProofs (disch := (first | omega | (simp; done) | fail)) [if_pos, if_neg, wrap_i64, tmod_pos, tdiv_pos, Int.toNat_add, wv, hs] <;> first | rfl | omega) _ (wballot_ok cs (off + 3) hs x.voted ⟨p3, p4, trivial⟩ _ _ wid _ _ hw (by simp at hl ⊢; omega)) ?_
  rintro _ h' ⟨rfl, F', hw', k'⟩
  replace k := k.trans k'
  clear hw k'
  have hw := hw'
  clear hw'
  refine ze ?_
  (refine goes_done ?_; (try simp only [vq, if_true, reduceIte, Nat.reduceEqDiff, reduceCtorEq]))
  repeat (first | ((first | refine zd ?_ | refine zx ?_ | refine zk ?_ | refine zl ?_ | refine zr ?_); refine zq ?_) | refine zs ?_ | refine zg ?_ | refine zb ?_ | refine zo ?_ | refine zt ?_ | refine zf ?_)
  refine goes_callS (callable_of Tryz.func77) (by simp -implicitDefEqProofs (disch := (first | omega | (simp; done) | fail)) [if_pos, if_neg, wrap_i64, tmod_pos, tdiv_pos, Int.toNat_add, wv, hs] <;> first | rfl | omega) _ (wcommand_ok cs (off + 5) hs x.cmd ⟨p5, p6, p7, p8, p9, p10, p11, p12, trivial⟩ _ _ wid _ _ hw (by simp at hl ⊢; omega)) ?_
  rintro _ h' ⟨rfl, F', hw', k'⟩
  replace k := k.trans k'
  clear hw k'
  have hw := hw'
  clear hw'
  refine ze ?_
  (refine goes_done ?_; (try simp only [vq, if_true, reduceIte, Nat.reduceEqDiff, reduceCtorEq]))
  (try refine awp_seq ?_)
  refine awp_draw (.q 0 (.q 1 (.q 2 (.q 3 (.q 4 (.q 5 (.q 6 (.q 7 (.a 8 (.done)))))))))) (by kernel_rfl) (by kernel_rfl) (tree_start (goesT_eq (by simp -implicitDefEqProofs (disch := (first | omega | (simp; done) | fail)) [if_pos, if_neg, wrap_i64, tmod_pos, tdiv_pos, Int.toNat_add, wv]; rfl) ?_))
  refine goesT_callS (callable_of Tryz.func33) (by simp -implicitDefEqProofs (disch := (first | omega | (simp; done) | fail)) [if_pos, if_neg, wrap_i64, tmod_pos, tdiv_pos, Int.toNat_add, wv, hs] <;> first | rfl | omega) _ (mnum_ok cs (off + 13) x.seq p13 _ _ wid _ _ hw (by simp at hl ⊢; omega)) ?_
  rintro _ h' ⟨rfl, F', hw', k'⟩
  replace k := k.trans k'
  clear hw k'
  have hw := hw'
  clear hw'
  refine zE ?_
  refine goesT_done ?_
  (try simp only [vq, if_true, reduceIte, Nat.reduceEqDiff, reduceCtorEq])
  repeat (first | ((first | refine zd ?_ | refine zx ?_ | refine zk ?_ | refine zl ?_ | refine zr ?_); refine zq ?_) | refine zs ?_ | refine zg ?_ | refine zb ?_ | refine zo ?_ | refine zt ?_ | refine zf ?_)
  refine goes_callS (callable_of Tryz.func78) (by simp -implicitDefEqProofs (disch := (first | omega | (simp; done) | fail)) [if_pos, if_neg, wrap_i64, tmod_pos, tdiv_pos, Int.toNat_add, wv, hs] <;> first | rfl | omega) _ (wids_ok cs (off + 14) hs x.deps p14 hn _ _ wid _ _ hw (by simp at hl ⊢; omega)) ?_
  rintro _ h' ⟨rfl, F', hw', k'⟩
  replace k := k.trans k'
  clear hw k'
  have hw := hw'
  clear hw'
  refine ze ?_
  (refine goes_done ?_; (try simp only [vq, if_true, reduceIte, Nat.reduceEqDiff, reduceCtorEq]))
  have hkl := k.1
  first | refine body_all (.inr rfl) (by simp -implicitDefEqProofs; rfl) (by simp -implicitDefEqProofs; rfl) (by first | (simp; done) | (simp; omega) | omega) ?_ | refine body_all (.inl rfl) (by simp -implicitDefEqProofs; rfl) (by simp -implicitDefEqProofs; rfl) (by first | (simp; done) | (simp; omega) | omega) ?_
  exact ⟨rfl, _, by simpa [Bool.or_assoc, List.append_assoc] using hw, k⟩
end Go.Proofs.YtdncoobpdllpkaaGreat.D

/- Messages as bytes: Msg, Put. -/
set_option linter.unusedVariables false
set_option linter.unusedSimpArgs false
set_option maxRecDepth 20000
namespace Go.Proofs.YtdncoobpdllpkaaGreat.D
open Go Go.Proofs.YtdncoobpdllpkaaGreat.V Go.Proofs.YtdncoobpdllpkaaGreat.N
theorem app_of {h h' : AHeap} (hl : h.length ≤ h'.length) (hk : ∀ k, k < h.length → h'[k]? = h[k]?) : ∃ y, h' = h ++ y :=
  ⟨h'.drop h.length, by
    have e : h'.take h.length = h := by
      apply List.ext_getElem?
      intro i
      rw [List.getElem?_take]
      split
      · exact hk i (by assumption)
      · rw [List.getElem?_eq_none (by omega)]
    calc h' = h'.take h.length ++ h'.drop h.length := (List.take_append_drop _ _).symm
      _ = h ++ h'.drop h.length := by rw [e]⟩
theorem Kept.app {h x h' : AHeap} {F F' : Nat → Prop} (a : Kept (h ++ x) F h' F') (hF : ∀ k, F k → h.length ≤ k) : ∃ y, h' = h ++ y :=
  app_of (by have := a.1; simp at this; omega) fun k hk => by
    rw [a.2.1 k (by simp; omega) (fun hf => by have := hF k hf; omega), List.getElem?_append_left hk]
def outB (l : List UInt8) (b : Bool) : List UInt8 := if b then [] else l
def outE (b : Bool) : Int := if b then 1 else 0
def outV (l : List UInt8) (b : Bool) : AV := .tuple [.list ((outB l b).map b8) .no, .int .i64 (outE b)]
theorem bytes_ok (h : AHeap) (F : Nat → Prop) (wid : Nat) (l : List UInt8) (b : Bool) (hw : Wd h F wid l b) (hl : l.length ≤ 100000000) :
    ACalls Tryz.prog 35 [.ptr wid 0] h fun r h' => r = outV l b ∧ h' = h := by
  obtain ⟨nid, sp, bd, G, rfl, w⟩ := hw
  have hw := w.at_
  refine acalls_of_awp Tryz.func35 rfl (by simp only [List.length_cons, List.length_nil]; decide) ?_
  simp only [params_cons, params_nil]
  repeat (first | ((first | refine zd ?_ | refine zx ?_ | refine zk ?_ | refine zl ?_ | refine zr ?_); refine zq ?_) | refine zs ?_ | refine zh (by simp -implicitDefEqProofs (disch := (first | omega | (simp; done) | fail)) [if_pos, if_neg, wrap_i64, tmod_pos, tdiv_pos, Int.toNat_add, hw]; rfl) ?_ | refine zb ?_ | refine zo ?_ | refine zt ?_ | refine zf ?_)
  cases sp with
  | true =>
    refine goes_callS (callable_of Tryz.func57) (by simp -implicitDefEqProofs (disch := (first | omega | (simp; done) | fail)) [if_pos, if_neg, wrap_i64, tmod_pos, tdiv_pos, Int.toNat_add] <;> first | rfl | omega) _ (wbytes_bad _ G nid l w.wr hl) ?_
    rintro _ h1 ⟨rfl, rfl⟩
    refine ze ?_
    cases bd with
    | true =>
      repeat (first | ((first | refine zd ?_ | refine zx ?_ | refine zk ?_ | refine zl ?_ | refine zr ?_); refine zq ?_) | refine zs ?_ | refine zh (by simp -implicitDefEqProofs (disch := (first | omega | (simp; done) | fail)) [if_pos, if_neg, wrap_i64, tmod_pos, tdiv_pos, Int.toNat_add, hw]; rfl) ?_ | refine zb ?_ | refine zo ?_ | refine zt ?_ | refine zf ?_)
      first | refine zY (.inr rfl) ?_ | refine zY (.inl rfl) ?_
      simp [outV, outB, outE]
    | false =>
      repeat (first | ((first | refine zd ?_ | refine zx ?_ | refine zk ?_ | refine zl ?_ | refine zr ?_); refine zq ?_) | refine zs ?_ | refine zh (by simp -implicitDefEqProofs (disch := (first | omega | (simp; done) | fail)) [if_pos, if_neg, wrap_i64, tmod_pos, tdiv_pos, Int.toNat_add, hw]; rfl) ?_ | refine zb ?_ | refine zo ?_ | refine zt ?_ | refine zf ?_)
      first | refine zY (.inr rfl) ?_ | refine zY (.inl rfl) ?_
      simp [outV, outB, outE]
  | false =>
    refine goes_callS (callable_of Tryz.func57) (by simp -implicitDefEqProofs (disch := (first | omega | (simp; done) | fail)) [if_pos, if_neg, wrap_i64, tmod_pos, tdiv_pos, Int.toNat_add] <;> first | rfl | omega) _ (wbytes_ok _ G nid l w.wr hl) ?_
    rintro _ h1 ⟨rfl, rfl⟩
    refine ze ?_
    cases bd with
    | true =>
      repeat (first | ((first | refine zd ?_ | refine zx ?_ | refine zk ?_ | refine zl ?_ | refine zr ?_); refine zq ?_) | refine zs ?_ | refine zh (by simp -implicitDefEqProofs (disch := (first | omega | (simp; done) | fail)) [if_pos, if_neg, wrap_i64, tmod_pos, tdiv_pos, Int.toNat_add, hw]; rfl) ?_ | refine zb ?_ | refine zo ?_ | refine zt ?_ | refine zf ?_)
      first | refine zY (.inr rfl) ?_ | refine zY (.inl rfl) ?_
      simp [outV, outB, outE]
    | false =>
      repeat (first | ((first | refine zd ?_ | refine zx ?_ | refine zk ?_ | refine zl ?_ | refine zr ?_); refine zq ?_) | refine zs ?_ | refine zh (by simp -implicitDefEqProofs (disch := (first | omega | (simp; done) | fail)) [if_pos, if_neg, wrap_i64, tmod_pos, tdiv_pos, Int.toNat_add, hw]; rfl) ?_ | refine zb ?_ | refine zo ?_ | refine zt ?_ | refine zf ?_)
      first | refine zY (.inr rfl) ?_ | refine zY (.inl rfl) ?_
      simp [outV, outB, outE]
theorem wd_new (h : AHeap) : Wd (h ++ [.cells [.list [] .full, .bool false], .cells [.ptr h.length 0, .bool false]]) (fun k => k = h.length ∨ k = h.length + 1) (h.length + 1) [] false :=
  ⟨h.length, false, false, fun k => k = h.length, rfl, by simp, .inr rfl, by simp, fun k hk => .inl hk, fun k hk => by rcases hk with hk | hk <;> subst hk <;> simp, fun k hk => by subst hk; simp, rfl, .full, by simp, .inl rfl⟩
theorem str_s : AV.strip ∘ AV.str = AV.str := s_comp fun x => by simp
theorem idv_s : AV.strip ∘ Iid.av = Iid.av := s_comp fun x => by simp [Iid.av, Iid.c]
theorem entv_s : AV.strip ∘ Entry.av = Entry.av := s_comp fun x => by simp [Entry.av, Entry.c]
theorem sesv_s : AV.strip ∘ Sess.av = Sess.av := s_comp fun x => by simp [Sess.av, ses_strip]
theorem iv_s : AV.strip ∘ iv = iv := s_comp fun x => by simp
def Msg.Few (x : Msg) : Prop := x.inst.deps.length ≤ 2000000 ∧ x.snap.Few ∧ (flat x.t).length ≤ 100000000
end Go.Proofs.YtdncoobpdllpkaaGreat.D

/- Records as bytes: Put. -/
set_option linter.unusedVariables false
set_option linter.unusedSimpArgs false
set_option maxRecDepth 20000
namespace Go.Proofs.YtdncoobpdllpkaaGreat.D
open Go Go.Proofs.YtdncoobpdllpkaaGreat.V Go.Proofs.YtdncoobpdllpkaaGreat.N
structure Rec where
  sl : Bool
  id : Iid
  inst : Inst
  snap : Snap
  deriving DecidableEq
def Rec.c (x : Rec) : List AV := [.bool x.sl, iv x.id.e, iv x.id.n, iv x.id.o,
  iv x.inst.status, iv x.inst.promise.no, iv x.inst.promise.node, iv x.inst.voted.no, iv x.inst.voted.node, iv x.inst.cmd.client, iv x.inst.cmd.seq, iv x.inst.cmd.op, .str x.inst.cmd.path, .str x.inst.cmd.value, iv x.inst.cmd.version, iv x.inst.cmd.a, iv x.inst.cmd.b, iv x.inst.seq, .list (x.inst.deps.map Iid.av) .no,
  iv x.snap.epoch, .list (x.snap.nodes.map iv) .no, .list (x.snap.paths.map Entry.av) .no, .list (x.snap.sessions.map Sess.av) .no]
def Iid.zB (x : Iid) : Bool := x.e == 0 && (x.n == 0 && x.o == 0)
def Bal.zB (x : Bal) : Bool := x.no == 0 && x.node == 0
def Cmd.zB (x : Cmd) : Bool := x.client == 0 && (x.seq == 0 && (x.op == 0 && (x.path.isEmpty && (x.value.isEmpty && (x.version == 0 && (x.a == 0 && x.b == 0))))))
def Inst.zB (x : Inst) : Bool := x.status == 0 && (x.promise.zB && (x.voted.zB && (x.cmd.zB && (x.seq == 0 && ((x.deps.length : Int) == 0)))))
def Snap.zB (x : Snap) : Bool := x.epoch == 0 && (((x.nodes.length : Int) == 0) && (((x.paths.length : Int) == 0) && ((x.sessions.length : Int) == 0)))
theorem inst_strip (x : Inst) : x.c.map AV.strip = x.c := by simp [Inst.c, idv_s]
theorem snap_strip (x : Snap) : x.c.map AV.strip = x.c := by simp [Snap.c, entv_s, sesv_s, iv_s]
theorem rec_strip (x : Rec) : x.c.map AV.strip = x.c := by simp [Rec.c, idv_s, entv_s, sesv_s, iv_s]
theorem none_ok (x : Inst) (hn : x.deps.length ≤ 2000000) (h : AHeap) : ACalls Tryz.prog 30 [.agg x.c] h fun r h' => r = .bool x.zB ∧ h' = h := by
  refine acalls_of_awp Tryz.func30 rfl (by simp only [List.length_cons, List.length_nil]; decide) ?_
  simp only [params_cons, params_nil]
  refine awp_seq ?_
  refine zg ?_
  refine goes_done ?_
  (try simp only [vq, if_true, reduceIte, Nat.reduceEqDiff, reduceCtorEq])
  refine awp_hard (id := h.length) (by simp -implicitDefEqProofs; rfl) ?_
  simp -implicitDefEqProofs only [Slots.melt, AV.melt, Nat.add_left_cancel_iff, Nat.add_eq_left, Nat.left_eq_add, Nat.reduceEqDiff, reduceIte, Nat.succ_ne_self, Nat.one_ne_zero, Nat.zero_ne_one, List.set_append_right, List.set_append_left, Nat.sub_self, Nat.le_refl, Nat.add_sub_cancel_left, Nat.le_add_right, List.set_cons_zero, List.set_cons_succ]
  simp only [Inst.c]
  refine awp_seq ?_
  refine zg ?_
  refine goes_done ?_
  (try simp only [vq, if_true, reduceIte, Nat.reduceEqDiff, reduceCtorEq])
  cases b1 : (x.status == 0) with
  | false =>
    repeat (first | ((first | refine zd ?_ | refine zx ?_ | refine zk ?_ | refine zl ?_ | refine zr ?_); refine zq ?_) | refine zs ?_ | refine zh (by simp -implicitDefEqProofs (disch := (first | omega | (simp; done) | fail)) [if_pos, if_neg, wrap_i64, tmod_pos, tdiv_pos, Int.toNat_add, b1]; rfl) ?_ | refine zb ?_ | refine zo ?_ | refine zt ?_ | refine zf ?_)
    first | refine zy (.inr rfl) ?_ | refine zy (.inl rfl) ?_
    simp [Inst.zB, Snap.zB, b1]
  | true =>
  cases b2 : x.promise.zB with
  | false =>
    have c2 := b2
    unfold Bal.zB at c2
    repeat (first | ((first | refine zd ?_ | refine zx ?_ | refine zk ?_ | refine zl ?_ | refine zr ?_); refine zq ?_) | refine zs ?_ | refine zh (by simp -implicitDefEqProofs (disch := (first | omega | (simp; done) | fail)) [if_pos, if_neg, wrap_i64, tmod_pos, tdiv_pos, Int.toNat_add, b1, b2, c2]; rfl) ?_ | refine zb ?_ | refine zo ?_ | refine zt ?_ | refine zf ?_)
    first | refine zy (.inr rfl) ?_ | refine zy (.inl rfl) ?_
    simp [Inst.zB, Snap.zB, b1, b2, c2]
  | true =>
  have c2 := b2
  unfold Bal.zB at c2
  cases b3 : x.voted.zB with
  | false =>
    have c3 := b3
    unfold Bal.zB at c3
    repeat (first | ((first | refine zd ?_ | refine zx ?_ | refine zk ?_ | refine zl ?_ | refine zr ?_); refine zq ?_) | refine zs ?_ | refine zh (by simp -implicitDefEqProofs (disch := (first | omega | (simp; done) | fail)) [if_pos, if_neg, wrap_i64, tmod_pos, tdiv_pos, Int.toNat_add, b1, b2, c2, b3, c3]; rfl) ?_ | refine zb ?_ | refine zo ?_ | refine zt ?_ | refine zf ?_)
    first | refine zy (.inr rfl) ?_ | refine zy (.inl rfl) ?_
    simp [Inst.zB, Snap.zB, b1, b2, c2, b3, c3]
  | true =>
  have c3 := b3
  unfold Bal.zB at c3
  cases b4 : x.cmd.zB with
  | false =>
    have c4 := b4
    unfold Cmd.zB at c4
    repeat (first | ((first | refine zd ?_ | refine zx ?_ | refine zk ?_ | refine zl ?_ | refine zr ?_); refine zq ?_) | refine zs ?_ | refine zh (by simp -implicitDefEqProofs (disch := (first | omega | (simp; done) | fail)) [if_pos, if_neg, wrap_i64, tmod_pos, tdiv_pos, Int.toNat_add, b1, b2, c2, b3, c3, b4, c4]; rfl) ?_ | refine zb ?_ | refine zo ?_ | refine zt ?_ | refine zf ?_)
    first | refine zy (.inr rfl) ?_ | refine zy (.inl rfl) ?_
    simp [Inst.zB, Snap.zB, b1, b2, c2, b3, c3, b4, c4]
  | true =>
  have c4 := b4
  unfold Cmd.zB at c4
  cases b5 : (x.seq == 0) with
  | false =>
    repeat (first | ((first | refine zd ?_ | refine zx ?_ | refine zk ?_ | refine zl ?_ | refine zr ?_); refine zq ?_) | refine zs ?_ | refine zh (by simp -implicitDefEqProofs (disch := (first | omega | (simp; done) | fail)) [if_pos, if_neg, wrap_i64, tmod_pos, tdiv_pos, Int.toNat_add, b1, b2, c2, b3, c3, b4, c4, b5]; rfl) ?_ | refine zb ?_ | refine zo ?_ | refine zt ?_ | refine zf ?_)
    first | refine zy (.inr rfl) ?_ | refine zy (.inl rfl) ?_
    simp [Inst.zB, Snap.zB, b1, b2, c2, b3, c3, b4, c4, b5]
  | true =>
  cases b6 : ((x.deps.length : Int) == 0) with
  | false =>
    repeat (first | ((first | refine zd ?_ | refine zx ?_ | refine zk ?_ | refine zl ?_ | refine zr ?_); refine zq ?_) | refine zs ?_ | refine zh (by simp -implicitDefEqProofs (disch := (first | omega | (simp; done) | fail)) [if_pos, if_neg, wrap_i64, tmod_pos, tdiv_pos, Int.toNat_add, b1, b2, c2, b3, c3, b4, c4, b5, b6]; rfl) ?_ | refine zb ?_ | refine zo ?_ | refine zt ?_ | refine zf ?_)
    first | refine zy (.inr rfl) ?_ | refine zy (.inl rfl) ?_
    simp [Inst.zB, Snap.zB, b1, b2, c2, b3, c3, b4, c4, b5, b6]
  | true =>
    repeat (first | ((first | refine zd ?_ | refine zx ?_ | refine zk ?_ | refine zl ?_ | refine zr ?_); refine zq ?_) | refine zs ?_ | refine zh (by simp -implicitDefEqProofs (disch := (first | omega | (simp; done) | fail)) [if_pos, if_neg, wrap_i64, tmod_pos, tdiv_pos, Int.toNat_add, b1, b2, c2, b3, c3, b4, c4, b5, b6]; rfl) ?_ | refine zb ?_ | refine zo ?_ | refine zt ?_ | refine zf ?_)
    first | refine zy (.inr rfl) ?_ | refine zy (.inl rfl) ?_
    simp [Inst.zB, Snap.zB, b1, b2, c2, b3, c3, b4, c4, b5, b6]
theorem empty_ok (x : Snap) (hf : x.Few) (h : AHeap) : ACalls Tryz.prog 31 [.agg x.c] h fun r h' => r = .bool x.zB ∧ h' = h := by
  obtain ⟨f1, f2, f3, f4⟩ := hf
  refine acalls_of_awp Tryz.func31 rfl (by simp only [List.length_cons, List.length_nil]; decide) ?_
  simp only [params_cons, params_nil]
  refine awp_seq ?_
  refine zg ?_
  refine goes_done ?_
  (try simp only [vq, if_true, reduceIte, Nat.reduceEqDiff, reduceCtorEq])
  refine awp_hard (id := h.length) (by simp -implicitDefEqProofs; rfl) ?_
  simp -implicitDefEqProofs only [Slots.melt, AV.melt, Nat.add_left_cancel_iff, Nat.add_eq_left, Nat.left_eq_add, Nat.reduceEqDiff, reduceIte, Nat.succ_ne_self, Nat.one_ne_zero, Nat.zero_ne_one, List.set_append_right, List.set_append_left, Nat.sub_self, Nat.le_refl, Nat.add_sub_cancel_left, Nat.le_add_right, List.set_cons_zero, List.set_cons_succ]
  simp only [Snap.c]
  cases b1 : (x.epoch == 0) with
  | false =>
    repeat (first | ((first | refine zd ?_ | refine zx ?_ | refine zk ?_ | refine zl ?_ | refine zr ?_); refine zq ?_) | refine zs ?_ | refine zh (by simp -implicitDefEqProofs (disch := (first | omega | (simp; done) | fail)) [if_pos, if_neg, wrap_i64, tmod_pos, tdiv_pos, Int.toNat_add, b1]; rfl) ?_ | refine zb ?_ | refine zo ?_ | refine zt ?_ | refine zf ?_)
    first | refine zy (.inr rfl) ?_ | refine zy (.inl rfl) ?_
    simp [Inst.zB, Snap.zB, b1]
  | true =>
  cases b2 : ((x.nodes.length : Int) == 0) with
  | false =>
    repeat (first | ((first | refine zd ?_ | refine zx ?_ | refine zk ?_ | refine zl ?_ | refine zr ?_); refine zq ?_) | refine zs ?_ | refine zh (by simp -implicitDefEqProofs (disch := (first | omega | (simp; done) | fail)) [if_pos, if_neg, wrap_i64, tmod_pos, tdiv_pos, Int.toNat_add, b1, b2]; rfl) ?_ | refine zb ?_ | refine zo ?_ | refine zt ?_ | refine zf ?_)
    first | refine zy (.inr rfl) ?_ | refine zy (.inl rfl) ?_
    simp [Inst.zB, Snap.zB, b1, b2]
  | true =>
  cases b3 : ((x.paths.length : Int) == 0) with
  | false =>
    repeat (first | ((first | refine zd ?_ | refine zx ?_ | refine zk ?_ | refine zl ?_ | refine zr ?_); refine zq ?_) | refine zs ?_ | refine zh (by simp -implicitDefEqProofs (disch := (first | omega | (simp; done) | fail)) [if_pos, if_neg, wrap_i64, tmod_pos, tdiv_pos, Int.toNat_add, b1, b2, b3]; rfl) ?_ | refine zb ?_ | refine zo ?_ | refine zt ?_ | refine zf ?_)
    first | refine zy (.inr rfl) ?_ | refine zy (.inl rfl) ?_
    simp [Inst.zB, Snap.zB, b1, b2, b3]
  | true =>
  cases b4 : ((x.sessions.length : Int) == 0) with
  | false =>
    repeat (first | ((first | refine zd ?_ | refine zx ?_ | refine zk ?_ | refine zl ?_ | refine zr ?_); refine zq ?_) | refine zs ?_ | refine zh (by simp -implicitDefEqProofs (disch := (first | omega | (simp; done) | fail)) [if_pos, if_neg, wrap_i64, tmod_pos, tdiv_pos, Int.toNat_add, b1, b2, b3, b4]; rfl) ?_ | refine zb ?_ | refine zo ?_ | refine zt ?_ | refine zf ?_)
    first | refine zy (.inr rfl) ?_ | refine zy (.inl rfl) ?_
    simp [Inst.zB, Snap.zB, b1, b2, b3, b4]
  | true =>
    repeat (first | ((first | refine zd ?_ | refine zx ?_ | refine zk ?_ | refine zl ?_ | refine zr ?_); refine zq ?_) | refine zs ?_ | refine zh (by simp -implicitDefEqProofs (disch := (first | omega | (simp; done) | fail)) [if_pos, if_neg, wrap_i64, tmod_pos, tdiv_pos, Int.toNat_add, b1, b2, b3, b4]; rfl) ?_ | refine zb ?_ | refine zo ?_ | refine zt ?_ | refine zf ?_)
    first | refine zy (.inr rfl) ?_ | refine zy (.inl rfl) ?_
    simp [Inst.zB, Snap.zB, b1, b2, b3, b4]
def Rec.t (x : Rec) : List Tk := if x.sl then .num 1 :: x.snap.t else .num 0 :: (x.id.t ++ x.inst.t)
def Rec.bad (x : Rec) : Bool := if x.sl then !(x.id.zB && x.inst.zB) else !x.snap.zB
def Rec.Few (x : Rec) : Prop := x.inst.deps.length ≤ 2000000 ∧ x.snap.Few ∧ (flat x.t).length ≤ 100000000
end Go.Proofs.YtdncoobpdllpkaaGreat.D

/- Records as bytes: Put, itself. -/
set_option linter.unusedVariables false
set_option linter.unusedSimpArgs false
set_option maxRecDepth 20000
namespace Go.Proofs.YtdncoobpdllpkaaGreat.D
open Go Go.Proofs.YtdncoobpdllpkaaGreat.V Go.Proofs.YtdncoobpdllpkaaGreat.N
theorem At.of (cs : List AV) (off : Nat) : ∀ (l : List AV) (k : Nat), (cs.drop (off + k)).take l.length = l → At cs off k l
  | [], k, h => trivial
  | x :: r, k, h => ⟨by
      have := congrArg (fun l => l[0]?) h
      simpa using this, At.of cs off r (k + 1) (by
        have e : (cs.drop (off + (k + 1))).take r.length = ((cs.drop (off + k)).take (r.length + 1)).tail := by
          rw [← List.drop_one, List.drop_take, List.drop_drop, Nat.add_sub_cancel, Nat.add_assoc]
        rw [e]
        exact congrArg List.tail h)⟩
theorem Rec.c_len (x : Rec) : x.c.length = 23 := rfl
def Rec.bodyT (x : Rec) : List Tk := if x.sl then x.snap.t else x.id.t ++ x.inst.t
theorem wbody_ok (x : Rec) (hn : x.inst.deps.length ≤ 2000000) (hf : x.snap.Few) : Writes 34 [.ref x.c 0] x.bodyT := by
  have hs := rec_strip x
  have p0 : x.c[0]? = some (.bool x.sl) := rfl
  have p1 : At x.c 1 0 x.id.c := At.of _ _ _ _ rfl
  have p4 : At x.c 4 0 x.inst.c := At.of _ _ _ _ rfl
  have p19 : At x.c 19 0 x.snap.c := At.of _ _ _ _ rfl
  generalize x.c = cs at *
  unfold Rec.bodyT
  rintro h F wid l b hw hl
  have k := Kept.refl h F
  unfold wv
  refine acalls_of_awp Tryz.func34 rfl (by simp only [List.length_cons, List.length_nil]; decide) ?_
  simp only [params_cons, params_nil]
  cases b1 : x.sl with
  | true =>
    rw [b1] at p0 hl
    simp only [if_true] at hl ⊢
    repeat (first | ((first | refine zd ?_ | refine zx ?_ | refine zk ?_ | refine zl ?_ | refine zr ?_); refine zq ?_) | refine zs ?_ | refine zh (by simp -implicitDefEqProofs (disch := (first | omega | (simp; done) | fail)) [if_pos, if_neg, wrap_i64, tmod_pos, tdiv_pos, Int.toNat_add, p0]; rfl) ?_ | refine zb ?_ | refine zo ?_ | refine zt ?_ | refine zf ?_)
    repeat (first | ((first | refine zd ?_ | refine zx ?_ | refine zk ?_ | refine zl ?_ | refine zr ?_); refine zq ?_) | refine zs ?_ | refine zg ?_ | refine zb ?_ | refine zo ?_ | refine zt ?_ | refine zf ?_)
    refine goes_callS (callable_of Tryz.func54) (by simp -implicitDefEqProofs (disch := (first | omega | (simp; done) | fail)) [if_pos, if_neg, wrap_i64, tmod_pos, tdiv_pos, Int.toNat_add, wv, hs] <;> first | rfl | omega) _ (wsnap_ok cs 19 hs x.snap p19 hf _ _ wid _ _ hw (by simp at hl ⊢; omega)) ?_
    rintro _ h' ⟨rfl, F', hw', k'⟩
    replace k := k.trans k'
    clear hw k'
    have hw := hw'
    clear hw'
    refine ze ?_
    (refine goes_done ?_; (try simp only [vq, if_true, reduceIte, Nat.reduceEqDiff, reduceCtorEq]))
    repeat (first | ((first | refine zd ?_ | refine zx ?_ | refine zk ?_ | refine zl ?_ | refine zr ?_); refine zq ?_) | refine zs ?_ | refine zg ?_ | refine zb ?_ | refine zo ?_ | refine zt ?_ | refine zf ?_)
    have hkl := k.1
    first | refine body_all (.inr rfl) (by simp -implicitDefEqProofs; rfl) (by simp -implicitDefEqProofs; rfl) (by first | (simp; done) | (simp; omega) | omega) ?_ | refine body_all (.inl rfl) (by simp -implicitDefEqProofs; rfl) (by simp -implicitDefEqProofs; rfl) (by first | (simp; done) | (simp; omega) | omega) ?_
    exact ⟨rfl, _, by simpa [Bool.or_assoc, List.append_assoc] using hw, k⟩
  | false =>
    rw [b1] at p0 hl
    simp only [Bool.false_eq_true, if_false] at hl ⊢
    repeat (first | ((first | refine zd ?_ | refine zx ?_ | refine zk ?_ | refine zl ?_ | refine zr ?_); refine zq ?_) | refine zs ?_ | refine zh (by simp -implicitDefEqProofs (disch := (first | omega | (simp; done) | fail)) [if_pos, if_neg, wrap_i64, tmod_pos, tdiv_pos, Int.toNat_add, p0]; rfl) ?_ | refine zb ?_ | refine zo ?_ | refine zt ?_ | refine zf ?_)
    repeat (first | ((first | refine zd ?_ | refine zx ?_ | refine zk ?_ | refine zl ?_ | refine zr ?_); refine zq ?_) | refine zs ?_ | refine zg ?_ | refine zb ?_ | refine zo ?_ | refine zt ?_ | refine zf ?_)
    refine goes_callS (callable_of Tryz.func55) (by simp -implicitDefEqProofs (disch := (first | omega | (simp; done) | fail)) [if_pos, if_neg, wrap_i64, tmod_pos, tdiv_pos, Int.toNat_add, wv, hs] <;> first | rfl | omega) _ (wid_ok cs 1 hs x.id p1 _ _ wid _ _ hw (by simp at hl ⊢; omega)) ?_
    rintro _ h' ⟨rfl, F', hw', k'⟩
    replace k := k.trans k'
    clear hw k'
    have hw := hw'
    clear hw'
    refine ze ?_
    (refine goes_done ?_; (try simp only [vq, if_true, reduceIte, Nat.reduceEqDiff, reduceCtorEq]))
    repeat (first | ((first | refine zd ?_ | refine zx ?_ | refine zk ?_ | refine zl ?_ | refine zr ?_); refine zq ?_) | refine zs ?_ | refine zg ?_ | refine zb ?_ | refine zo ?_ | refine zt ?_ | refine zf ?_)
    refine goes_callS (callable_of Tryz.func56) (by simp -implicitDefEqProofs (disch := (first | omega | (simp; done) | fail)) [if_pos, if_neg, wrap_i64, tmod_pos, tdiv_pos, Int.toNat_add, wv, hs] <;> first | rfl | omega) _ (winst_ok cs 4 hs x.inst p4 hn _ _ wid _ _ hw (by simp at hl ⊢; omega)) ?_
    rintro _ h' ⟨rfl, F', hw', k'⟩
    replace k := k.trans k'
    clear hw k'
    have hw := hw'
    clear hw'
    refine ze ?_
    (refine goes_done ?_; (try simp only [vq, if_true, reduceIte, Nat.reduceEqDiff, reduceCtorEq]))
    have hkl := k.1
    first | refine body_all (.inr rfl) (by simp -implicitDefEqProofs; rfl) (by simp -implicitDefEqProofs; rfl) (by first | (simp; done) | (simp; omega) | omega) ?_ | refine body_all (.inl rfl) (by simp -implicitDefEqProofs; rfl) (by simp -implicitDefEqProofs; rfl) (by first | (simp; done) | (simp; omega) | omega) ?_
    exact ⟨rfl, _, by simpa [Bool.or_assoc, List.append_assoc] using hw, k⟩
theorem put_ok (x : Rec) (hx : x.Few) (h : AHeap) : ACalls Tryz.prog 13 [.agg x.c] h fun r h' => r = (if x.bad then outV [] true else outV (flat x.t) (bads x.t)) ∧ h' = h := by
  obtain ⟨hn, hf, hl⟩ := hx
  have hs := rec_strip x
  have p0 : x.c[0]? = some (.bool x.sl) := rfl
  have q1 : x.c.tail.take 3 = x.id.c := rfl
  have q4 : (x.c.drop 4).take 15 = x.inst.c := rfl
  have q19 : (x.c.drop 19).take 4 = x.snap.c := rfl
  refine acalls_of_awp Tryz.func13 rfl (by simp only [List.length_cons, List.length_nil]; decide) ?_
  simp only [params_cons, params_nil]
  refine awp_seq ?_
  refine zg ?_
  refine goes_done ?_
  (try simp only [vq, if_true, reduceIte, Nat.reduceEqDiff, reduceCtorEq])
  refine awp_hard (id := h.length) (by simp -implicitDefEqProofs; rfl) ?_
  simp -implicitDefEqProofs only [Slots.melt, AV.melt, Nat.add_left_cancel_iff, Nat.add_eq_left, Nat.left_eq_add, Nat.reduceEqDiff, reduceIte, Nat.succ_ne_self, Nat.one_ne_zero, Nat.zero_ne_one, List.set_append_right, List.set_append_left, Nat.sub_self, Nat.le_refl, Nat.add_sub_cancel_left, Nat.le_add_right, List.set_cons_zero, List.set_cons_succ]
  cases b1 : x.sl with
  | true =>
    rw [b1] at p0
    simp only [Rec.t, b1, if_true] at hl
    refine awp_seq ?_
    refine zg ?_
    refine goes_done ?_
    (try simp only [vq, if_true, reduceIte, Nat.reduceEqDiff, reduceCtorEq])
    refine awp_seq (awp_seq ?_)
    refine zh (by simp -implicitDefEqProofs (disch := (first | omega | (simp; done) | fail)) [if_pos, if_neg, wrap_i64, tmod_pos, tdiv_pos, Int.toNat_add, p0]; rfl) ?_
    refine goes_done ?_
    (try simp only [vq, if_true, reduceIte, Nat.reduceEqDiff, reduceCtorEq])
    refine awp_cond_t rfl ?_
    refine zg ?_
    refine goes_done ?_
    (try simp only [vq, if_true, reduceIte, Nat.reduceEqDiff, reduceCtorEq])
    refine awp_seq (awp_seq ?_)
    cases b2 : x.id.zB with
    | false =>
      have c2 := b2
      unfold Iid.zB at c2
      repeat (first | ((first | refine zd ?_ | refine zx ?_ | refine zk ?_ | refine zl ?_ | refine zr ?_); refine zq ?_) | refine zs ?_ | refine zh (by simp -implicitDefEqProofs (disch := (first | omega | (simp; done) | fail)) [if_pos, if_neg, wrap_i64, tmod_pos, tdiv_pos, Int.toNat_add, p0, Rec.c_len, q1, Iid.c, c2]; rfl) ?_ | refine zb ?_ | refine zo ?_ | refine zt ?_ | refine zf ?_)
      first | refine zy (.inr rfl) ?_ | refine zy (.inl rfl) ?_
      simp [Rec.bad, b1, b2, outV, outB, outE]
    | true =>
      have c2 := b2
      unfold Iid.zB at c2
      repeat (first | ((first | refine zd ?_ | refine zx ?_ | refine zk ?_ | refine zl ?_ | refine zr ?_); refine zq ?_) | refine zs ?_ | refine zh (by simp -implicitDefEqProofs (disch := (first | omega | (simp; done) | fail)) [if_pos, if_neg, wrap_i64, tmod_pos, tdiv_pos, Int.toNat_add, p0, Rec.c_len, q1, q4, Iid.c, c2]; rfl) ?_ | refine zb ?_ | refine zo ?_ | refine zt ?_ | refine zf ?_)
      refine goes_callS (callable_of Tryz.func30) (by simp -implicitDefEqProofs (disch := (first | omega | (simp; done) | fail)) [if_pos, if_neg, wrap_i64, tmod_pos, tdiv_pos, Int.toNat_add, inst_strip] <;> first | rfl | omega) _ (none_ok x.inst hn _) ?_
      rintro _ h1 ⟨rfl, rfl⟩
      cases b3 : x.inst.zB with
      | false =>
        refine ze ?_
        repeat (first | ((first | refine zd ?_ | refine zx ?_ | refine zk ?_ | refine zl ?_ | refine zr ?_); refine zq ?_) | refine zs ?_ | refine zg ?_ | refine zb ?_ | refine zo ?_ | refine zt ?_ | refine zf ?_)
        first | refine zy (.inr rfl) ?_ | refine zy (.inl rfl) ?_
        simp [Rec.bad, b1, b2, b3, outV, outB, outE]
      | true =>
        refine goes_eq (by simp -implicitDefEqProofs (disch := (first | omega | (simp; done) | fail)) [if_pos, if_neg, wrap_i64, tmod_pos, tdiv_pos, Int.toNat_add, p0]; rfl) ?_
        refine goes_done ?_
        simp only [vq, if_true, reduceIte, Nat.reduceEqDiff, reduceCtorEq]
        refine awp_cond_f rfl (awp_skip ?_)
        simp only [vq, if_true, reduceIte, Nat.reduceEqDiff, reduceCtorEq]
        have hbad : x.bad = false := by simp [Rec.bad, b1, b2, b3]
        simp only [hbad, Bool.false_eq_true, if_false, Rec.t, b1, if_true]
        refine awp_hard (id := h.length + 1) (by simp -implicitDefEqProofs; rfl) ?_
        simp -implicitDefEqProofs only [Slots.melt, AV.melt, Nat.add_left_cancel_iff, Nat.add_eq_left, Nat.left_eq_add, Nat.reduceEqDiff, reduceIte, Nat.succ_ne_self, Nat.one_ne_zero, Nat.zero_ne_one, List.set_append_right, List.set_append_left, Nat.sub_self, Nat.le_refl, Nat.add_sub_cancel_left, Nat.le_add_right, List.set_cons_zero, List.set_cons_succ]
        repeat (first | ((first | refine zd ?_ | refine zx ?_ | refine zk ?_ | refine zl ?_ | refine zr ?_); refine zq ?_) | refine zs ?_ | refine zg ?_ | refine zb ?_ | refine zo ?_ | refine zt ?_ | refine zf ?_)
        refine zp (callable_of Tryz.func32) _ (new_ok _) ?_
        rintro _ h1 ⟨rfl, rfl⟩
        refine ze ?_
        repeat (first | ((first | refine zd ?_ | refine zx ?_ | refine zk ?_ | refine zl ?_ | refine zr ?_); refine zq ?_) | refine zs ?_ | refine zg ?_ | refine zb ?_ | refine zo ?_ | refine zt ?_ | refine zf ?_)
        have hw := wd_new (h ++ [.dead, .dead])
        simp only [List.append_assoc, List.cons_append, List.nil_append, List.length_append, List.length_cons, List.length_nil, Nat.reduceAdd, Nat.zero_add] at hw
        have k := Kept.refl (h ++ [.dead, .dead, .cells [.list [] .full, .bool false], .cells [.ptr (h.length + 2) 0, .bool false]]) (fun k => k = h.length + 2 ∨ k = h.length + 2 + 1)
        refine goes_callS (callable_of Tryz.func33) (by simp -implicitDefEqProofs (disch := (first | omega | (simp; done) | fail)) [if_pos, if_neg, wrap_i64, tmod_pos, tdiv_pos, Int.toNat_add, wv, hs] <;> first | rfl | omega) _ (mnum_ok [iv 1] 0 1 rfl _ _ _ _ _ hw (by simp at hl ⊢; omega)) ?_
        rintro _ h' ⟨rfl, F', hw', k'⟩
        replace k := k.trans k'
        refine ze ?_
        repeat (first | ((first | refine zd ?_ | refine zx ?_ | refine zk ?_ | refine zl ?_ | refine zr ?_); refine zq ?_) | refine zs ?_ | refine zg ?_ | refine zb ?_ | refine zo ?_ | refine zt ?_ | refine zf ?_)
        refine goes_callS (callable_of Tryz.func34) (by simp -implicitDefEqProofs (disch := (first | omega | (simp; done) | fail)) [if_pos, if_neg, wrap_i64, tmod_pos, tdiv_pos, Int.toNat_add, wv, hs] <;> first | rfl | omega) _ (wbody_ok x hn hf _ _ _ _ _ hw' (by simp at hl; simp [Rec.bodyT, b1]; omega)) ?_
        rintro _ h' ⟨rfl, F', hw', k'⟩
        replace k := k.trans k'
        have hla : (([] ++ flat [.num 1]) ++ flat x.bodyT).length ≤ 100000000 := by simp at hl; simp [Rec.bodyT, b1]; omega
        refine ze ?_
        repeat (first | ((first | refine zd ?_ | refine zx ?_ | refine zk ?_ | refine zl ?_ | refine zr ?_); refine zq ?_) | refine zs ?_ | refine zg ?_ | refine zb ?_ | refine zo ?_ | refine zt ?_ | refine zf ?_)
        refine goes_callS (callable_of Tryz.func35) (by simp -implicitDefEqProofs (disch := (first | omega | (simp; done) | fail)) [if_pos, if_neg, wrap_i64, tmod_pos, tdiv_pos, Int.toNat_add] <;> first | rfl | omega) _ (bytes_ok _ _ _ _ _ hw' hla) ?_
        rintro _ h1 ⟨rfl, rfl⟩
        obtain ⟨y, rfl⟩ := Kept.app k (fun k hk => by rcases hk with hk | hk <;> omega)
        refine goes_eq (by simp -implicitDefEqProofs (disch := (first | omega | (simp; done) | fail)) [if_pos, if_neg, wrap_i64, tmod_pos, tdiv_pos, Int.toNat_add, outV]; rfl) ?_
        repeat (first | ((first | refine zd ?_ | refine zx ?_ | refine zk ?_ | refine zl ?_ | refine zr ?_); refine zq ?_) | refine zs ?_ | refine zg ?_ | refine zb ?_ | refine zo ?_ | refine zt ?_ | refine zf ?_)
        first | refine zy (.inr rfl) ?_ | refine zy (.inl rfl) ?_
        simp [outV, Rec.bodyT, b1]
  | false =>
    rw [b1] at p0
    simp only [Rec.t, b1, Bool.false_eq_true, if_false] at hl
    refine awp_seq ?_
    refine zg ?_
    refine goes_done ?_
    (try simp only [vq, if_true, reduceIte, Nat.reduceEqDiff, reduceCtorEq])
    refine awp_seq (awp_seq ?_)
    refine zh (by simp -implicitDefEqProofs (disch := (first | omega | (simp; done) | fail)) [if_pos, if_neg, wrap_i64, tmod_pos, tdiv_pos, Int.toNat_add, p0]; rfl) ?_
    refine goes_done ?_
    (try simp only [vq, if_true, reduceIte, Nat.reduceEqDiff, reduceCtorEq])
    refine awp_cond_f rfl (awp_skip ?_)
    simp only [vq, if_true, reduceIte, Nat.reduceEqDiff, reduceCtorEq]
    refine awp_seq (awp_seq ?_)
    repeat (first | ((first | refine zd ?_ | refine zx ?_ | refine zk ?_ | refine zl ?_ | refine zr ?_); refine zq ?_) | refine zs ?_ | refine zh (by simp -implicitDefEqProofs (disch := (first | omega | (simp; done) | fail)) [if_pos, if_neg, wrap_i64, tmod_pos, tdiv_pos, Int.toNat_add, p0, Rec.c_len, q19]; rfl) ?_ | refine zb ?_ | refine zo ?_ | refine zt ?_ | refine zf ?_)
    refine goes_callS (callable_of Tryz.func31) (by simp -implicitDefEqProofs (disch := (first | omega | (simp; done) | fail)) [if_pos, if_neg, wrap_i64, tmod_pos, tdiv_pos, Int.toNat_add, snap_strip] <;> first | rfl | omega) _ (empty_ok x.snap hf _) ?_
    rintro _ h1 ⟨rfl, rfl⟩
    cases b3 : x.snap.zB with
    | false =>
      refine ze ?_
      repeat (first | ((first | refine zd ?_ | refine zx ?_ | refine zk ?_ | refine zl ?_ | refine zr ?_); refine zq ?_) | refine zs ?_ | refine zg ?_ | refine zb ?_ | refine zo ?_ | refine zt ?_ | refine zf ?_)
      first | refine zy (.inr rfl) ?_ | refine zy (.inl rfl) ?_
      simp [Rec.bad, b1, b3, outV, outB, outE]
    | true =>
      refine goes_eq (by simp -implicitDefEqProofs (disch := (first | omega | (simp; done) | fail)) [if_pos, if_neg, wrap_i64, tmod_pos, tdiv_pos, Int.toNat_add, p0]; rfl) ?_
      refine goes_done ?_
      simp only [vq, if_true, reduceIte, Nat.reduceEqDiff, reduceCtorEq]
      refine awp_cond_f rfl (awp_skip ?_)
      simp only [vq, if_true, reduceIte, Nat.reduceEqDiff, reduceCtorEq]
      have hbad : x.bad = false := by simp [Rec.bad, b1, b3]
      simp only [hbad, Bool.false_eq_true, if_false, Rec.t, b1]
      refine awp_hard (id := h.length + 1) (by simp -implicitDefEqProofs; rfl) ?_
      simp -implicitDefEqProofs only [Slots.melt, AV.melt, Nat.add_left_cancel_iff, Nat.add_eq_left, Nat.left_eq_add, Nat.reduceEqDiff, reduceIte, Nat.succ_ne_self, Nat.one_ne_zero, Nat.zero_ne_one, List.set_append_right, List.set_append_left, Nat.sub_self, Nat.le_refl, Nat.add_sub_cancel_left, Nat.le_add_right, List.set_cons_zero, List.set_cons_succ]
      repeat (first | ((first | refine zd ?_ | refine zx ?_ | refine zk ?_ | refine zl ?_ | refine zr ?_); refine zq ?_) | refine zs ?_ | refine zg ?_ | refine zb ?_ | refine zo ?_ | refine zt ?_ | refine zf ?_)
      refine zp (callable_of Tryz.func32) _ (new_ok _) ?_
      rintro _ h1 ⟨rfl, rfl⟩
      refine ze ?_
      repeat (first | ((first | refine zd ?_ | refine zx ?_ | refine zk ?_ | refine zl ?_ | refine zr ?_); refine zq ?_) | refine zs ?_ | refine zg ?_ | refine zb ?_ | refine zo ?_ | refine zt ?_ | refine zf ?_)
      have hw := wd_new (h ++ [.dead, .dead])
      simp only [List.append_assoc, List.cons_append, List.nil_append, List.length_append, List.length_cons, List.length_nil, Nat.reduceAdd, Nat.zero_add] at hw
      have k := Kept.refl (h ++ [.dead, .dead, .cells [.list [] .full, .bool false], .cells [.ptr (h.length + 2) 0, .bool false]]) (fun k => k = h.length + 2 ∨ k = h.length + 2 + 1)
      refine goes_callS (callable_of Tryz.func33) (by simp -implicitDefEqProofs (disch := (first | omega | (simp; done) | fail)) [if_pos, if_neg, wrap_i64, tmod_pos, tdiv_pos, Int.toNat_add, wv, hs] <;> first | rfl | omega) _ (mnum_ok [iv 0] 0 0 rfl _ _ _ _ _ hw (by simp at hl ⊢; omega)) ?_
      rintro _ h' ⟨rfl, F', hw', k'⟩
      replace k := k.trans k'
      refine ze ?_
      repeat (first | ((first | refine zd ?_ | refine zx ?_ | refine zk ?_ | refine zl ?_ | refine zr ?_); refine zq ?_) | refine zs ?_ | refine zg ?_ | refine zb ?_ | refine zo ?_ | refine zt ?_ | refine zf ?_)
      refine goes_callS (callable_of Tryz.func34) (by simp -implicitDefEqProofs (disch := (first | omega | (simp; done) | fail)) [if_pos, if_neg, wrap_i64, tmod_pos, tdiv_pos, Int.toNat_add, wv, hs] <;> first | rfl | omega) _ (wbody_ok x hn hf _ _ _ _ _ hw' (by simp at hl; simp [Rec.bodyT, b1]; omega)) ?_
      rintro _ h' ⟨rfl, F', hw', k'⟩
      replace k := k.trans k'
      have hla : (([] ++ flat [.num 0]) ++ flat x.bodyT).length ≤ 100000000 := by simp at hl; simp [Rec.bodyT, b1]; omega
      refine ze ?_
      repeat (first | ((first | refine zd ?_ | refine zx ?_ | refine zk ?_ | refine zl ?_ | refine zr ?_); refine zq ?_) | refine zs ?_ | refine zg ?_ | refine zb ?_ | refine zo ?_ | refine zt ?_ | refine zf ?_)
      refine goes_callS (callable_of Tryz.func35) (by simp -implicitDefEqProofs (disch := (first | omega | (simp; done) | fail)) [if_pos, if_neg, wrap_i64, tmod_pos, tdiv_pos, Int.toNat_add] <;> first | rfl | omega) _ (bytes_ok _ _ _ _ _ hw' hla) ?_
      rintro _ h1 ⟨rfl, rfl⟩
      obtain ⟨y, rfl⟩ := Kept.app k (fun k hk => by rcases hk with hk | hk <;> omega)
      refine goes_eq (by simp -implicitDefEqProofs (disch := (first | omega | (simp; done) | fail)) [if_pos, if_neg, wrap_i64, tmod_pos, tdiv_pos, Int.toNat_add, outV]; rfl) ?_
      repeat (first | ((first | refine zd ?_ | refine zx ?_ | refine zk ?_ | refine zl ?_ | refine zr ?_); refine zq ?_) | refine zs ?_ | refine zg ?_ | refine zb ?_ | refine zo ?_ | refine zt ?_ | refine zf ?_)
      first | refine zy (.inr rfl) ?_ | refine zy (.inl rfl) ?_
      simp [outV, Rec.bodyT, b1]
end Go.Proofs.YtdncoobpdllpkaaGreat.D

/- Messages as bytes: what the document writes. -/
set_option linter.unusedVariables false
set_option linter.unusedSimpArgs false
set_option maxRecDepth 20000
namespace Go.Proofs.YtdncoobpdllpkaaGreat.D
open Go Go.Proofs.YtdncoobpdllpkaaGreat.V Go.Proofs.YtdncoobpdllpkaaGreat.N
/-- What is written, and whether it can't be. -/
def RS (h : AHeap) (oid : Nat) (s : List UInt8) (b : Bool) (ts : List Tk) (h' : AHeap) : Prop :=
  ∃ s', h'[oid]? = some (.cells [.str s', .bool (b || bads ts)]) ∧ ((b || bads ts) = false → s' = s ++ flat ts) ∧ s'.length ≤ s.length + (flat ts).length ∧ Kept h (fun k => k = oid) h' (fun k => k = oid)
theorem RS.start {h : AHeap} {oid : Nat} {s : List UInt8} {b : Bool} (ho : h[oid]? = some (.cells [.str s, .bool b])) : RS h oid s b [] h :=
  ⟨s, by simpa using ho, fun _ => by simp, by simp, Kept.refl _ _⟩
theorem RS.step {h h1 h2 : AHeap} {oid : Nat} {s s1 : List UInt8} {b : Bool} {ts t2 : List Tk}
    (r : h1[oid]? = some (.cells [.str s1, .bool (b || bads ts)]) ∧ ((b || bads ts) = false → s1 = s ++ flat ts) ∧ s1.length ≤ s.length + (flat ts).length ∧ Kept h (fun k => k = oid) h1 (fun k => k = oid))
    (q : RS h1 oid s1 (b || bads ts) t2 h2) : RS h oid s b (ts ++ t2) h2 := by
  obtain ⟨r1, r2, r3, r4⟩ := r
  obtain ⟨s2, q1, q2, q3, q4⟩ := q
  refine ⟨s2, by simpa [Bool.or_assoc] using q1, fun e => ?_, by simp at q3 r3 ⊢; omega, r4.trans q4⟩
  have e' : ((b || bads ts) || bads t2) = false := by simpa [Bool.or_assoc] using e
  rw [q2 e', r2 (by simp only [Bool.or_eq_false_iff] at e' ⊢; exact e'.1)]
  simp
theorem RS.len {h h' : AHeap} {oid : Nat} {s : List UInt8} {b : Bool} {ts : List Tk} (r : RS h oid s b ts h') : h.length ≤ h'.length := by
  obtain ⟨_, _, _, _, k⟩ := r; exact k.1
theorem RS.app {h h' : AHeap} {oid : Nat} {s : List UInt8} {b : Bool} {ts : List Tk} (r : RS h oid s b ts h') (x : AHeap) : RS h oid s b ts (h' ++ x) := by
  obtain ⟨s', r1, r2, r3, r4⟩ := r
  have hl := (List.getElem?_eq_some_iff.1 r1).1
  exact ⟨s', by rw [List.getElem?_append_left hl]; exact r1, r2, r3, by simp; have := r4.1; omega, fun k hk hn => by rw [List.getElem?_append_left (by have := r4.1; omega)]; exact r4.2.1 k hk hn, fun k hk => .inl hk⟩
theorem RS.bad {h h' : AHeap} {oid : Nat} {s : List UInt8} {b : Bool} {ts : List Tk} (r : RS h oid s b ts h') (hb : (b || bads ts) = true) (t2 : List Tk) : RS h oid s b (ts ++ t2) h' := by
  obtain ⟨s', r1, r2, r3, r4⟩ := r
  have e : (b || bads (ts ++ t2)) = true := by
    rw [bads_app, ← Bool.or_assoc, hb]; rfl
  exact ⟨s', by rw [e]; rw [hb] at r1; exact r1, (fun h => by rw [e] at h; cases h), (by simp; omega), r4⟩
theorem rnum_bad (n : Int) (hn : canB n = false) (h : AHeap) : ACalls Tryz.prog 83 [.int .i64 n] h fun r h' => r = .str [] ∧ h' = h := by
  refine acalls_of_awp Tryz.func83 rfl (by simp only [List.length_cons, List.length_nil]; decide) ?_
  simp only [params_cons, params_nil]
  by_cases h1 : n < 0
  · repeat (first | ((first | refine zd ?_ | refine zx ?_ | refine zk ?_ | refine zl ?_ | refine zr ?_); refine zq ?_) | refine zs ?_ | refine zh (by simp -implicitDefEqProofs (disch := (first | omega | (simp; done) | fail)) [if_pos, if_neg, wrap_i64, tmod_pos, tdiv_pos, Int.toNat_add, h1]; rfl) ?_ | refine zb ?_ | refine zo ?_ | refine zt ?_ | refine zf ?_)
    first | refine zY (.inr rfl) ?_ | refine zY (.inl rfl) ?_
    simp
  · have h2 : (281474976710656 : Int) < n := by simp [canB] at hn; omega
    repeat (first | ((first | refine zd ?_ | refine zx ?_ | refine zk ?_ | refine zl ?_ | refine zr ?_); refine zq ?_) | refine zs ?_ | refine zh (by simp -implicitDefEqProofs (disch := (first | omega | (simp; done) | fail)) [if_pos, if_neg, wrap_i64, tmod_pos, tdiv_pos, Int.toNat_add, h1, h2]; rfl) ?_ | refine zb ?_ | refine zo ?_ | refine zt ?_ | refine zf ?_)
    first | refine zY (.inr rfl) ?_ | refine zY (.inl rfl) ?_
    simp
theorem rany_ok (n : Int) (h : AHeap) : ACalls Tryz.prog 83 [.int .i64 n] h fun r h' => r = .str (nbI n) ∧ h' = h := by
  by_cases hc : canB n = true
  · obtain ⟨m, rfl, hm⟩ := canB_nat hc
    rw [nbI_nat hm]
    exact rnum_ok m hm h
  · have hc : canB n = false := by simpa using hc
    simp only [nbI, hc, Bool.false_eq_true, if_false]
    exact rnum_bad n hc h
end Go.Proofs.YtdncoobpdllpkaaGreat.D
