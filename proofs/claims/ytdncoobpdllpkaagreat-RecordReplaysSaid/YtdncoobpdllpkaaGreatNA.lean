import Derived.Test.YtdncoobpdllpkaaGreatV19
import Derived.Test.YtdncoobpdllpkaaGreatVT
/- Numbers as bytes: the plain law, and how many bytes a number is. -/
set_option linter.unusedVariables false
set_option linter.unusedSimpArgs false
set_option maxRecDepth 20000
namespace Go.Proofs.YtdncoobpdllpkaaGreat.N
open Go Go.Proofs.YtdncoobpdllpkaaGreat.V
def b8n (n : Nat) : UInt8 := UInt8.ofNat n
theorem b8n_toNat (n : Nat) : (b8n n).toNat = n % 256 := by simp [b8n]
def nb (n : Nat) : List UInt8 := if h : n < 128 then [b8n n] else b8n (128 + n % 128) :: nb (n / 128)
termination_by n
decreasing_by omega
theorem nb_small {n : Nat} (h : n < 128) : nb n = [b8n n] := by rw [nb, dif_pos h]
theorem nb_big {n : Nat} (h : 128 ≤ n) : nb n = b8n (128 + n % 128) :: nb (n / 128) := by rw [nb, dif_neg (by omega)]
def canB (n : Int) : Bool := decide (0 ≤ n) && decide (n ≤ 281474976710656)
theorem right_ok (n : Int) (h : AHeap) : ACalls Tryz.prog 68 [.int .i64 n] h fun r h' => r = .bool (canB n) ∧ h' = h := by
  refine acalls_of_awp Tryz.func68 rfl (by simp only [List.length_cons, List.length_nil]; decide) ?_
  simp only [params_cons, params_nil]
  by_cases h1 : 0 ≤ n
  · repeat (first | ((first | refine zd ?_ | refine zx ?_ | refine zk ?_ | refine zl ?_ | refine zr ?_); refine zq ?_) | refine zs ?_ | refine zh (by simp -implicitDefEqProofs (disch := (first | omega | (simp; done) | fail)) [if_pos, if_neg, wrap_i64, tmod_pos, tdiv_pos, Int.toNat_add, h1]; rfl) ?_ | refine zb ?_ | refine zo ?_ | refine zt ?_ | refine zf ?_)
    first | refine zY (.inr rfl) ?_ | refine zY (.inl rfl) ?_
    simp [canB, h1]
  · repeat (first | ((first | refine zd ?_ | refine zx ?_ | refine zk ?_ | refine zl ?_ | refine zr ?_); refine zq ?_) | refine zs ?_ | refine zh (by simp -implicitDefEqProofs (disch := (first | omega | (simp; done) | fail)) [if_pos, if_neg, wrap_i64, tmod_pos, tdiv_pos, Int.toNat_add, h1]; rfl) ?_ | refine zb ?_ | refine zo ?_ | refine zt ?_ | refine zf ?_)
    first | refine zY (.inr rfl) ?_ | refine zY (.inl rfl) ?_
    simp [canB, h1]
def nbL (m : Nat) : Nat := if m = 0 then 0 else (nb m).length
theorem nb_len (n : Nat) : (nb n).length = 1 + nbL (n / 128) := by
  unfold nbL
  by_cases h : n < 128
  · rw [nb_small h, if_pos (by omega)]; rfl
  · rw [nb_big (by omega), if_neg (by omega)]; simp; omega
theorem size_ok (n : Nat) (hn : n ≤ 281474976710656) (h : AHeap) : ACalls Tryz.prog 94 [.int .i64 (n : Nat)] h fun r h' => r = .int .i64 ((nb n).length : Nat) ∧ h' = h := by
  have hc : canB (n : Int) = true := by simp [canB]; omega
  refine acalls_of_awp Tryz.func94 rfl (by simp only [List.length_cons, List.length_nil]; decide) ?_
  simp only [params_cons, params_nil]
  repeat (first | ((first | refine zd ?_ | refine zx ?_ | refine zk ?_ | refine zl ?_ | refine zr ?_); refine zq ?_) | refine zs ?_ | refine zg ?_ | refine zb ?_ | refine zo ?_ | refine zt ?_ | refine zf ?_)
  refine zp (callable_of Tryz.func68) _ (right_ok n _) ?_
  rintro _ h ⟨rfl, rfl⟩
  rw [hc]
  refine ze ?_
  repeat (first | ((first | refine zd ?_ | refine zx ?_ | refine zk ?_ | refine zl ?_ | refine zr ?_); refine zq ?_) | refine zs ?_ | refine zg ?_ | refine zb ?_ | refine zo ?_ | refine zt ?_ | refine zf ?_)
  refine awp_loop (fun j st => ∃ m k, j = m ∧ (nb n).length = k + nbL m ∧ k + m ≤ n + 1 ∧ st.le ⟨Tryz.f94.ntmps, [(0, .int .i64 (m : Nat)), (3, .int .i64 (k : Nat))], h⟩) (n / 128) ?_ ?_
  rotate_left
  rintro j st ⟨m, k, rfl, hk, hb, hle⟩
  · refine awp_le hle ?_
    repeat (first | ((first | refine zd ?_ | refine zx ?_ | refine zk ?_ | refine zl ?_ | refine zr ?_); refine zq ?_) | refine zs ?_ | refine zg ?_ | refine zb ?_ | refine zo ?_ | refine zt ?_ | refine zf ?_)
    refine awp_cond rfl (fun h1 => ?_) (fun h1 => ?_)
    · simp at h1
      repeat (first | ((first | refine zd ?_ | refine zx ?_ | refine zk ?_ | refine zl ?_ | refine zr ?_); refine zq ?_) | refine zs ?_ | refine zg ?_ | refine zb ?_ | refine zo ?_ | refine zt ?_ | refine zf ?_)
      exact ⟨j / 128, by omega, j / 128, k + 1, rfl, by rw [hk, nbL, if_neg (by omega), nb_len]; omega, by omega, st_keep' (by simp []) (by simp [])⟩
    · simp at h1
      repeat (first | ((first | refine zd ?_ | refine zx ?_ | refine zk ?_ | refine zl ?_ | refine zr ?_); refine zq ?_) | refine zs ?_ | refine zg ?_ | refine zb ?_ | refine zo ?_ | refine zt ?_ | refine zf ?_)
      first | refine zY (.inr rfl) ?_ | refine zY (.inl rfl) ?_
      rw [hk, h1]; simp [nbL]
  · exact ⟨n / 128, 1, rfl, nb_len n, by omega, st_keep' (by simp []) (by simp [])⟩
end Go.Proofs.YtdncoobpdllpkaaGreat.N

/- Numbers as bytes: the reference's number and text. -/
set_option linter.unusedVariables false
set_option linter.unusedSimpArgs false
set_option maxRecDepth 20000
namespace Go.Proofs.YtdncoobpdllpkaaGreat.N
open Go Go.Proofs.YtdncoobpdllpkaaGreat.V
theorem nb_le (n : Nat) : (nb n).length ≤ n + 1 := by
  induction n using Nat.strongRecOn with
  | _ n ih =>
    by_cases h : n < 128
    · rw [nb_small h]; simp
    · rw [nb_big (by omega)]; have := ih (n / 128) (by omega); simp; omega
theorem rnum_ok (n : Nat) : ∀ (hn : n ≤ 281474976710656) (h : AHeap), ACalls Tryz.prog 83 [.int .i64 (n : Nat)] h fun r h' => r = .str (nb n) ∧ h' = h := by
  induction n using Nat.strongRecOn with
  | _ n ih =>
    intro hn h
    refine acalls_of_awp Tryz.func83 rfl (by simp only [List.length_cons, List.length_nil]; decide) ?_
    simp only [params_cons, params_nil]
    have hnl := nb_le (n / 128)
    have h1 : ¬ ((n : Int) < 0) := by omega
    have h2 : ¬ ((281474976710656 : Int) < (n : Int)) := by omega
    have e1 : n < 128 → bytesOf [.int .u8 ((n : Int) % 256)] = some [b8n n] := fun _ => by
      have := bytesOf_map [b8n n]
      simpa [b8, b8n_toNat] using this
    have e2 : bytesOf [.int .u8 ((128 + (n : Int) % 128) % 256)] = some [b8n (128 + n % 128)] := by
      have := bytesOf_map [b8n (128 + n % 128)]
      simpa [b8, b8n_toNat] using this
    repeat (first | ((first | refine zd ?_ | refine zx ?_ | refine zk ?_ | refine zl ?_ | refine zr ?_); refine zq ?_) | refine zs ?_ | refine zh (by simp -implicitDefEqProofs (disch := (first | omega | (simp; done) | fail)) [if_pos, if_neg, wrap_i64, tmod_pos, tdiv_pos, Int.toNat_add, h1, h2]; rfl) ?_ | refine zb ?_ | refine zo ?_ | refine zt ?_ | refine zf ?_)
    refine awp_cond rfl (fun h0 => ?_) (fun h0 => ?_)
    · simp at h0
      have e3 := e1 (by omega)
      repeat (first | ((first | refine zd ?_ | refine zx ?_ | refine zk ?_ | refine zl ?_ | refine zr ?_); refine zq ?_) | refine zs ?_ | refine zh (by simp -implicitDefEqProofs (disch := (first | omega | (simp; done) | fail)) [if_pos, if_neg, wrap_i64, tmod_pos, tdiv_pos, Int.toNat_add, e3]; rfl) ?_ | refine zb ?_ | refine zo ?_ | refine zt ?_ | refine zf ?_)
      first | refine zY (.inr rfl) ?_ | refine zY (.inl rfl) ?_
      rw [nb_small (by omega)]; simp
    · simp at h0
      repeat (first | ((first | refine zd ?_ | refine zx ?_ | refine zk ?_ | refine zl ?_ | refine zr ?_); refine zq ?_) | refine zs ?_ | refine zg ?_ | refine zb ?_ | refine zo ?_ | refine zt ?_ | refine zf ?_)
      refine awp_draw (.q 0 (.q 1 (.q 2 (.q 3 (.q 6 (.q 7 (.two 4 8 (.q 5 (.a 8 (.q 9 (.q 10 (.done))))) (.a 4 (.q 5 (.q 9 (.q 10 (.done)))))))))))) (by kernel_rfl) (by kernel_rfl) (tree_start (goesT_eq (by simp -implicitDefEqProofs (disch := (first | omega | (simp; done) | fail)) [if_pos, if_neg, wrap_i64, tmod_pos, tdiv_pos, Int.toNat_add, e2]; rfl) ?_))
      refine goesT_two (goesT_eq (by simp -implicitDefEqProofs (disch := (first | omega | (simp; done) | fail)) [if_pos, if_neg, wrap_i64, tmod_pos, tdiv_pos, Int.toNat_add, e2]; rfl) ?_) (goesT_eq (by simp -implicitDefEqProofs (disch := (first | omega | (simp; done) | fail)) [if_pos, if_neg, wrap_i64, tmod_pos, tdiv_pos, Int.toNat_add, e2]; rfl) ?_)
      · refine zP (callable_of Tryz.func83) _ (ih (n / 128) (by omega) (by omega) _) ?_
        rintro _ _ ⟨rfl, rfl⟩
        refine goesT_eq (by simp -implicitDefEqProofs (disch := (first | omega | (simp; done) | fail)) [if_pos, if_neg, wrap_i64, tmod_pos, tdiv_pos, Int.toNat_add, e2]; rfl) ?_
        refine goesT_done ?_
        (try simp only [vq, if_true, reduceIte, Nat.reduceEqDiff, reduceCtorEq])
        repeat (first | ((first | refine zd ?_ | refine zx ?_ | refine zk ?_ | refine zl ?_ | refine zr ?_); refine zq ?_) | refine zs ?_ | refine zg ?_ | refine zb ?_ | refine zo ?_ | refine zt ?_ | refine zf ?_)
        first | refine zY (.inr rfl) ?_ | refine zY (.inl rfl) ?_
        rw [nb_big (n := n) (by omega)]; simp
      · refine zP (callable_of Tryz.func83) _ (ih (n / 128) (by omega) (by omega) _) ?_
        rintro _ _ ⟨rfl, rfl⟩
        refine goesT_eq (by simp -implicitDefEqProofs (disch := (first | omega | (simp; done) | fail)) [if_pos, if_neg, wrap_i64, tmod_pos, tdiv_pos, Int.toNat_add, e2]; rfl) ?_
        refine goesT_done ?_
        (try simp only [vq, if_true, reduceIte, Nat.reduceEqDiff, reduceCtorEq])
        repeat (first | ((first | refine zd ?_ | refine zx ?_ | refine zk ?_ | refine zl ?_ | refine zr ?_); refine zq ?_) | refine zs ?_ | refine zg ?_ | refine zb ?_ | refine zo ?_ | refine zt ?_ | refine zf ?_)
        first | refine zY (.inr rfl) ?_ | refine zY (.inl rfl) ?_
        rw [nb_big (n := n) (by omega)]; simp
end Go.Proofs.YtdncoobpdllpkaaGreat.N

/- Numbers as bytes: the writer. -/
set_option linter.unusedVariables false
set_option linter.unusedSimpArgs false
set_option maxRecDepth 20000
namespace Go.Proofs.YtdncoobpdllpkaaGreat.N
open Go Go.Proofs.YtdncoobpdllpkaaGreat.V
theorem new_ok (h : AHeap) : ACalls Tryz.prog 32 [] h fun r h' => r = .ptr h.length 0 ∧ h' = h ++ [.cells [.list [] .full, .bool false]] := by
  refine acalls_of_awp Tryz.func32 rfl (by simp only [List.length_cons, List.length_nil]; decide) ?_
  simp only [params_cons, params_nil]
  repeat (first | ((first | refine zd ?_ | refine zx ?_ | refine zk ?_ | refine zl ?_ | refine zr ?_); refine zq ?_) | refine zs ?_ | refine zg ?_ | refine zb ?_ | refine zo ?_ | refine zt ?_ | refine zf ?_)
  first | refine body_all (.inr rfl) (by simp -implicitDefEqProofs; rfl) (by simp -implicitDefEqProofs; rfl) (by first | (simp; done) | (simp; omega) | omega) ?_ | refine body_all (.inl rfl) (by simp -implicitDefEqProofs; rfl) (by simp -implicitDefEqProofs; rfl) (by first | (simp; done) | (simp; omega) | omega) ?_
  simp
/-- A writer: its object; what it owns. -/
def Wr (h : AHeap) (F : Nat → Prop) (id : Nat) (l : List UInt8) (sp : Bool) : Prop :=
  (∀ k, F k → k < h.length) ∧ F id ∧ ∃ t, h[id]? = some (.cells [.list (l.map b8) t, .bool sp]) ∧ (t = .full ∨ ∃ j, t = .own j ∧ j ≠ id ∧ F j ∧ h[j]? = some (.tail 5 1))
/-- What is not the writer's stays. -/
def Kept (h : AHeap) (F : Nat → Prop) (h' : AHeap) (F' : Nat → Prop) : Prop :=
  h.length ≤ h'.length ∧ (∀ k, k < h.length → ¬ F k → h'[k]? = h[k]?) ∧ ∀ k, F' k → F k ∨ h.length ≤ k
theorem Kept.refl (h : AHeap) (F : Nat → Prop) : Kept h F h F := ⟨Nat.le_refl _, fun _ _ _ => rfl, fun _ h => .inl h⟩
theorem Kept.trans {h h' h'' : AHeap} {F F' F'' : Nat → Prop} (a : Kept h F h' F') (b : Kept h' F' h'' F'') : Kept h F h'' F'' :=
  ⟨Nat.le_trans a.1 b.1, fun k hk hn => by
    rw [b.2.1 k (Nat.lt_of_lt_of_le hk a.1) (fun hf => (a.2.2 k hf).elim hn (fun h => by omega))]; exact a.2.1 k hk hn,
   fun k hk => (b.2.2 k hk).elim (a.2.2 k) (fun h => .inr (Nat.le_trans a.1 h))⟩
end Go.Proofs.YtdncoobpdllpkaaGreat.N

/- Numbers as bytes: the writer's steps on the heap. -/
set_option linter.unusedVariables false
set_option linter.unusedSimpArgs false
set_option maxRecDepth 20000
namespace Go.Proofs.YtdncoobpdllpkaaGreat.N
open Go Go.Proofs.YtdncoobpdllpkaaGreat.V
theorem wr_full {h : AHeap} {F : Nat → Prop} {id : Nat} {sp : Bool} (h1 : ∀ k, F k → k < h.length) (h2 : F id) (l : List UInt8) :
    Wr ((h ++ [AObj.tail 5 1]).set id (.cells [.list (l.map b8) (.own h.length), .bool sp])) (fun k => F k ∨ k = h.length) id l sp ∧
    Kept h F ((h ++ [AObj.tail 5 1]).set id (.cells [.list (l.map b8) (.own h.length), .bool sp])) (fun k => F k ∨ k = h.length) := by
  have hid := h1 id h2
  refine ⟨⟨fun k hk => ?_, .inl h2, .own h.length, ?_, .inr ⟨h.length, rfl, by omega, .inr rfl, ?_⟩⟩, by simp, fun k hk hn => ?_, fun k hk => ?_⟩
  · rcases hk with hk | hk
    · have := h1 k hk; simp; omega
    · simp; omega
  · rw [List.getElem?_set_self (by simp; omega)]
  · rw [List.getElem?_set_ne (by omega)]; simp
  · rw [List.getElem?_set_ne (fun e => hn (by rw [← e]; exact h2)), List.getElem?_append_left hk]
  · rcases hk with hk | hk
    · exact .inl hk
    · exact .inr (by omega)
theorem wr_own {h : AHeap} {F : Nat → Prop} {id j : Nat} {sp : Bool} (h1 : ∀ k, F k → k < h.length) (h2 : F id) (h3 : F j) (l : List UInt8) :
    Wr ((h.set j .dead ++ [AObj.tail 5 1]).set id (.cells [.list (l.map b8) (.own h.length), .bool sp])) (fun k => F k ∨ k = h.length) id l sp ∧
    Kept h F ((h.set j .dead ++ [AObj.tail 5 1]).set id (.cells [.list (l.map b8) (.own h.length), .bool sp])) (fun k => F k ∨ k = h.length) := by
  have hid := h1 id h2
  refine ⟨⟨fun k hk => ?_, .inl h2, .own h.length, ?_, .inr ⟨h.length, rfl, by omega, .inr rfl, ?_⟩⟩, by simp, fun k hk hn => ?_, fun k hk => ?_⟩
  · rcases hk with hk | hk
    · have := h1 k hk; simp; omega
    · simp; omega
  · rw [List.getElem?_set_self (by simp; omega)]
  · rw [List.getElem?_set_ne (by omega)]; simp
  · rw [List.getElem?_set_ne (fun e => hn (by rw [← e]; exact h2)), List.getElem?_append_left (by simpa using hk), List.getElem?_set_ne (fun e => hn (by rw [← e]; exact h3))]
  · rcases hk with hk | hk
    · exact .inl hk
    · exact .inr (by omega)
end Go.Proofs.YtdncoobpdllpkaaGreat.N

/- Numbers as bytes: the writer writes. -/
set_option linter.unusedVariables false
set_option linter.unusedSimpArgs false
set_option maxRecDepth 20000
namespace Go.Proofs.YtdncoobpdllpkaaGreat.N
open Go Go.Proofs.YtdncoobpdllpkaaGreat.V
theorem nb_pow : ∀ (k n : Nat), n < 128 ^ (k + 1) → (nb n).length ≤ k + 1
  | 0, n, h => by rw [nb_small (by simpa using h)]; simp
  | k + 1, n, h => by
    by_cases h1 : n < 128
    · rw [nb_small h1]; simp
    · rw [nb_big (by omega)]
      have := nb_pow k (n / 128) (by rw [Nat.pow_succ] at h; omega)
      simpa using this
theorem nb_seven {n : Nat} (h : n ≤ 281474976710656) : (nb n).length ≤ 7 := nb_pow 6 n (by omega)
theorem or128_all : ∀ x : Fin 256, bits .or .u8 ((x.val : Nat) : Int) 128 = 128 + ((x.val : Nat) : Int) % 128 := by decide +kernel
theorem or128 (n : Nat) : bits .or .u8 ((n : Int) % 256) 128 = 128 + (n : Int) % 128 := by
  have h := or128_all ⟨n % 256, by omega⟩
  simp only [Int.natCast_emod, Int.cast_ofNat_Int] at h
  rw [h]
  omega
theorem b8_more (n : Nat) : AV.int .u8 (128 + (n : Int) % 128) = b8 (b8n (128 + n % 128)) := by
  have h : (128 + n % 128) % 256 = 128 + n % 128 := by omega
  simp [b8, b8n_toNat, h]
theorem b8_last (n : Nat) (h : n < 128) : AV.int .u8 ((n : Int) % 256) = b8 (b8n n) := by
  simp [b8, b8n_toNat]
theorem wnum_ok (n : Nat) (hn : n ≤ 281474976710656) (h : AHeap) (F : Nat → Prop) (id : Nat) (l : List UInt8) (sp : Bool) (hw : Wr h F id l sp) (hl : l.length ≤ 100000000) :
    ACalls Tryz.prog 53 [.ptr id 0, .int .i64 (n : Nat)] h fun r h' => r = .ptr id 0 ∧ ∃ F', Wr h' F' id (l ++ nb n) sp ∧ Kept h F h' F' := by
  have hc : canB (n : Int) = true := by simp [canB]; omega
  refine acalls_of_awp Tryz.func53 rfl (by simp only [List.length_cons, List.length_nil]; decide) ?_
  simp only [params_cons, params_nil]
  repeat (first | ((first | refine zd ?_ | refine zx ?_ | refine zk ?_ | refine zl ?_ | refine zr ?_); refine zq ?_) | refine zs ?_ | refine zg ?_ | refine zb ?_ | refine zo ?_ | refine zt ?_ | refine zf ?_)
  refine zp (callable_of Tryz.func68) _ (right_ok n _) ?_
  rintro _ h0 ⟨rfl, rfl⟩
  rw [hc]
  refine ze ?_
  repeat (first | ((first | refine zd ?_ | refine zx ?_ | refine zk ?_ | refine zl ?_ | refine zr ?_); refine zq ?_) | refine zs ?_ | refine zg ?_ | refine zb ?_ | refine zo ?_ | refine zt ?_ | refine zf ?_)
  refine awp_loop (fun j st => ∃ (m : Nat) (p : List UInt8) (h' : AHeap) (F' : Nat → Prop), j = m ∧ m ≤ n ∧ p ++ nb m = nb n ∧ Wr h' F' id (l ++ p) sp ∧ Kept h0 F h' F' ∧ st.le ⟨Tryz.f53.ntmps, [(0, .ptr id 0), (1, .int .i64 (m : Nat))], h'⟩) n ?_ ?_
  rotate_left
  · rintro j st ⟨m, p, h', F', rfl, hm, hp, hw', hk, hle⟩
    refine awp_le hle ?_
    obtain ⟨w1, w2, t, w3, w4⟩ := hw'
    have h7 := nb_seven hn
    have hkl := hk.1
    have hpl : (p ++ nb j).length ≤ 7 := by rw [hp]; exact h7
    simp only [List.length_append] at hpl
    have hlp : l.length + p.length ≤ 140737488355327 := by omega
    repeat (first | ((first | refine zd ?_ | refine zx ?_ | refine zk ?_ | refine zl ?_ | refine zr ?_); refine zq ?_) | refine zs ?_ | refine zg ?_ | refine zb ?_ | refine zo ?_ | refine zt ?_ | refine zf ?_)
    refine awp_cond rfl (fun h1 => ?_) (fun h1 => ?_)
    · simp at h1
      have h1' : 128 ≤ j := by omega
      rw [nb_big h1', List.append_cons] at hp
      rcases w4 with rfl | ⟨i, rfl, hij, hFi, hi⟩
      · have hs := wr_full (sp := sp) w1 w2 (l ++ (p ++ [b8n (128 + j % 128)]))
        repeat (first | ((first | refine zd ?_ | refine zx ?_ | refine zk ?_ | refine zl ?_ | refine zr ?_); refine zq ?_) | refine zs ?_ | refine zh (by simp -implicitDefEqProofs (disch := (first | omega | (simp; done) | fail)) [if_pos, if_neg, wrap_i64, tmod_pos, tdiv_pos, Int.toNat_add, w3, hlp, List.getElem?_append_left (w1 id w2), or128]; rfl) ?_ | refine zb ?_ | refine zo ?_ | refine zt ?_ | refine zf ?_)
        refine ⟨j / 128, by omega, j / 128, p ++ [b8n (128 + j % 128)], _, _, rfl, by omega, hp, hs.1, hk.trans hs.2, st_keep' (by simp [← b8_more]) (by simp [← b8_more])⟩
      · have hs := wr_own (sp := sp) w1 w2 hFi (l ++ (p ++ [b8n (128 + j % 128)]))
        have hga := fun y => List.getElem?_append_left (l₁ := h'.set i .dead) (l₂ := y) (i := id) (by simpa using w1 id w2)
        repeat (first | ((first | refine zd ?_ | refine zx ?_ | refine zk ?_ | refine zl ?_ | refine zr ?_); refine zq ?_) | refine zs ?_ | refine zh (by simp -implicitDefEqProofs (disch := (first | omega | (simp; done) | fail)) [if_pos, if_neg, wrap_i64, tmod_pos, tdiv_pos, Int.toNat_add, w3, hlp, hi, hga, or128, hij]; rfl) ?_ | refine zb ?_ | refine zo ?_ | refine zt ?_ | refine zf ?_)
        refine ⟨j / 128, by omega, j / 128, p ++ [b8n (128 + j % 128)], _, _, rfl, by omega, hp, hs.1, hk.trans hs.2, st_keep' (by simp [← b8_more]) (by simp [← b8_more])⟩
    · simp at h1
      have h1' : j < 128 := by omega
      rw [nb_small h1'] at hp
      have e : ∀ t, AV.list (List.map b8 l ++ (List.map b8 p ++ [AV.int .u8 ((j : Int) % 256)])) t = AV.list (List.map b8 (l ++ nb n)) t := fun t => by
        rw [← hp, b8_last j h1']; simp
      rcases w4 with rfl | ⟨i, rfl, hij, hFi, hi⟩
      · have hs := wr_full (sp := sp) w1 w2 (l ++ nb n)
        repeat (first | ((first | refine zd ?_ | refine zx ?_ | refine zk ?_ | refine zl ?_ | refine zr ?_); refine zq ?_) | refine zs ?_ | refine zh (by simp -implicitDefEqProofs (disch := (first | omega | (simp; done) | fail)) [if_pos, if_neg, wrap_i64, tmod_pos, tdiv_pos, Int.toNat_add, w3, hlp, List.getElem?_append_left (w1 id w2)]; rfl) ?_ | refine zb ?_ | refine zo ?_ | refine zt ?_ | refine zf ?_)
        first | refine body_all (.inr rfl) (by simp -implicitDefEqProofs; rfl) (by simp -implicitDefEqProofs; rfl) (by first | (simp; done) | (simp; omega) | omega) ?_ | refine body_all (.inl rfl) (by simp -implicitDefEqProofs; rfl) (by simp -implicitDefEqProofs; rfl) (by first | (simp; done) | (simp; omega) | omega) ?_
        simp only [e]
        exact ⟨trivial, _, hs.1, hk.trans hs.2⟩
      · have hs := wr_own (sp := sp) w1 w2 hFi (l ++ nb n)
        have hga := fun y => List.getElem?_append_left (l₁ := h'.set i .dead) (l₂ := y) (i := id) (by simpa using w1 id w2)
        repeat (first | ((first | refine zd ?_ | refine zx ?_ | refine zk ?_ | refine zl ?_ | refine zr ?_); refine zq ?_) | refine zs ?_ | refine zh (by simp -implicitDefEqProofs (disch := (first | omega | (simp; done) | fail)) [if_pos, if_neg, wrap_i64, tmod_pos, tdiv_pos, Int.toNat_add, w3, hlp, hi, hga, hij]; rfl) ?_ | refine zb ?_ | refine zo ?_ | refine zt ?_ | refine zf ?_)
        first | refine body_all (.inr rfl) (by simp -implicitDefEqProofs; rfl) (by simp -implicitDefEqProofs; rfl) (by first | (simp; done) | (simp; omega) | omega) ?_ | refine body_all (.inl rfl) (by simp -implicitDefEqProofs; rfl) (by simp -implicitDefEqProofs; rfl) (by first | (simp; done) | (simp; omega) | omega) ?_
        simp only [e]
        exact ⟨trivial, _, hs.1, hk.trans hs.2⟩
  · exact ⟨n, [], h0, F, rfl, Nat.le_refl _, rfl, by simpa using hw, Kept.refl _ _, st_keep' (by simp []) (by simp [])⟩
end Go.Proofs.YtdncoobpdllpkaaGreat.N

/- Numbers as bytes: the writer: what can't be written, texts, and all bytes. -/
set_option linter.unusedVariables false
set_option linter.unusedSimpArgs false
set_option maxRecDepth 20000
namespace Go.Proofs.YtdncoobpdllpkaaGreat.N
open Go Go.Proofs.YtdncoobpdllpkaaGreat.V
theorem wr_spoil {h : AHeap} {F : Nat → Prop} {id : Nat} {l : List UInt8} {t : Tok} (h1 : ∀ k, F k → k < h.length) (h2 : F id)
    (h4 : t = .full ∨ ∃ j, t = .own j ∧ j ≠ id ∧ F j ∧ h[j]? = some (.tail 5 1)) :
    Wr (h.set id (.cells [.list (l.map b8) t, .bool true])) F id l true ∧
    Kept h F (h.set id (.cells [.list (l.map b8) t, .bool true])) F := by
  have hid := h1 id h2
  refine ⟨⟨fun k hk => by simpa using h1 k hk, h2, t, List.getElem?_set_self hid, h4.imp_right ?_⟩, by simp, fun k hk hn => ?_, fun k hk => .inl hk⟩
  · rintro ⟨j, a, b, c, d⟩
    exact ⟨j, a, b, c, by rw [List.getElem?_set_ne (Ne.symm b)]; exact d⟩
  · rw [List.getElem?_set_ne (fun e => hn (by rw [← e]; exact h2))]
theorem wbad_ok (n : Int) (hn : canB n = false) (h : AHeap) (F : Nat → Prop) (id : Nat) (l : List UInt8) (sp : Bool) (hw : Wr h F id l sp) :
    ACalls Tryz.prog 53 [.ptr id 0, .int .i64 n] h fun r h' => r = .ptr id 0 ∧ ∃ F', Wr h' F' id l true ∧ Kept h F h' F' := by
  refine acalls_of_awp Tryz.func53 rfl (by simp only [List.length_cons, List.length_nil]; decide) ?_
  simp only [params_cons, params_nil]
  repeat (first | ((first | refine zd ?_ | refine zx ?_ | refine zk ?_ | refine zl ?_ | refine zr ?_); refine zq ?_) | refine zs ?_ | refine zg ?_ | refine zb ?_ | refine zo ?_ | refine zt ?_ | refine zf ?_)
  refine zp (callable_of Tryz.func68) _ (right_ok n _) ?_
  rintro _ h0 ⟨rfl, rfl⟩
  rw [hn]
  refine ze ?_
  repeat (first | ((first | refine zd ?_ | refine zx ?_ | refine zk ?_ | refine zl ?_ | refine zr ?_); refine zq ?_) | refine zs ?_ | refine zg ?_ | refine zb ?_ | refine zo ?_ | refine zt ?_ | refine zf ?_)
  obtain ⟨w1, w2, t, w3, w4⟩ := hw
  have hs := wr_spoil (l := l) w1 w2 w4
  refine goes_eq (by simp -implicitDefEqProofs (disch := (first | omega | (simp; done) | fail)) [if_pos, if_neg, wrap_i64, tmod_pos, tdiv_pos, Int.toNat_add, w3]; rfl) ?_
  repeat (first | ((first | refine zd ?_ | refine zx ?_ | refine zk ?_ | refine zl ?_ | refine zr ?_); refine zq ?_) | refine zs ?_ | refine zh (by simp -implicitDefEqProofs (disch := (first | omega | (simp; done) | fail)) [if_pos, if_neg, wrap_i64, tmod_pos, tdiv_pos, Int.toNat_add, w3]; rfl) ?_ | refine zb ?_ | refine zo ?_ | refine zt ?_ | refine zf ?_)
  first | refine body_all (.inr rfl) (by simp -implicitDefEqProofs; rfl) (by simp -implicitDefEqProofs; rfl) (by first | (simp; done) | (simp; omega) | omega) ?_ | refine body_all (.inl rfl) (by simp -implicitDefEqProofs; rfl) (by simp -implicitDefEqProofs; rfl) (by first | (simp; done) | (simp; omega) | omega) ?_
  exact ⟨rfl, _, hs⟩
theorem wtext_ok (s : List UInt8) (hs : s.length ≤ 100000000) (h : AHeap) (F : Nat → Prop) (id : Nat) (l : List UInt8) (sp : Bool) (hw : Wr h F id l sp) (hl : l.length ≤ 100000000) :
    ACalls Tryz.prog 136 [.ptr id 0, .str s] h fun r h' => r = .ptr id 0 ∧ ∃ F', Wr h' F' id (l ++ (nb s.length ++ s)) sp ∧ Kept h F h' F' := by
  refine acalls_of_awp Tryz.func136 rfl (by simp only [List.length_cons, List.length_nil]; decide) ?_
  simp only [params_cons, params_nil]
  repeat (first | ((first | refine zd ?_ | refine zx ?_ | refine zk ?_ | refine zl ?_ | refine zr ?_); refine zq ?_) | refine zs ?_ | refine zg ?_ | refine zb ?_ | refine zo ?_ | refine zt ?_ | refine zf ?_)
  refine goes_callS (callable_of Tryz.func53) (by simp -implicitDefEqProofs (disch := (first | omega | (simp; done) | fail)) [if_pos, if_neg, wrap_i64, tmod_pos, tdiv_pos, Int.toNat_add] <;> first | rfl | omega) _ (wnum_ok s.length (by omega) _ F id l sp hw hl) ?_
  rintro _ h' ⟨rfl, F', hw', hk⟩
  have h7 := nb_seven (n := s.length) (by omega)
  have hkl := hk.1
  obtain ⟨w1, w2, t, w3, w4⟩ := hw'
  rcases w4 with rfl | ⟨i, rfl, hij, hFi, hi⟩
  · have hs := wr_full (sp := sp) w1 w2 (l ++ (nb s.length ++ s))
    refine goes_eq (by simp -implicitDefEqProofs (disch := (first | omega | (simp; done) | fail)) [if_pos, if_neg, wrap_i64, tmod_pos, tdiv_pos, Int.toNat_add, w3, List.getElem?_append_left (w1 id w2)]; rfl) ?_
    repeat (first | ((first | refine zd ?_ | refine zx ?_ | refine zk ?_ | refine zl ?_ | refine zr ?_); refine zq ?_) | refine zs ?_ | refine zh (by simp -implicitDefEqProofs (disch := (first | omega | (simp; done) | fail)) [if_pos, if_neg, wrap_i64, tmod_pos, tdiv_pos, Int.toNat_add, w3, List.getElem?_append_left (w1 id w2)]; rfl) ?_ | refine zb ?_ | refine zo ?_ | refine zt ?_ | refine zf ?_)
    first | refine body_all (.inr rfl) (by simp -implicitDefEqProofs; rfl) (by simp -implicitDefEqProofs; rfl) (by first | (simp; done) | (simp; omega) | omega) ?_ | refine body_all (.inl rfl) (by simp -implicitDefEqProofs; rfl) (by simp -implicitDefEqProofs; rfl) (by first | (simp; done) | (simp; omega) | omega) ?_
    exact ⟨rfl, _, by simpa using hs.1, by simpa using hk.trans hs.2⟩
  · have hs := wr_own (sp := sp) w1 w2 hFi (l ++ (nb s.length ++ s))
    have hga := fun y => List.getElem?_append_left (l₁ := h'.set i .dead) (l₂ := y) (i := id) (by simpa using w1 id w2)
    refine goes_eq (by simp -implicitDefEqProofs (disch := (first | omega | (simp; done) | fail)) [if_pos, if_neg, wrap_i64, tmod_pos, tdiv_pos, Int.toNat_add, w3, hi, hij, hga]; rfl) ?_
    repeat (first | ((first | refine zd ?_ | refine zx ?_ | refine zk ?_ | refine zl ?_ | refine zr ?_); refine zq ?_) | refine zs ?_ | refine zh (by simp -implicitDefEqProofs (disch := (first | omega | (simp; done) | fail)) [if_pos, if_neg, wrap_i64, tmod_pos, tdiv_pos, Int.toNat_add, w3, hi, hij, hga]; rfl) ?_ | refine zb ?_ | refine zo ?_ | refine zt ?_ | refine zf ?_)
    first | refine body_all (.inr rfl) (by simp -implicitDefEqProofs; rfl) (by simp -implicitDefEqProofs; rfl) (by first | (simp; done) | (simp; omega) | omega) ?_ | refine body_all (.inl rfl) (by simp -implicitDefEqProofs; rfl) (by simp -implicitDefEqProofs; rfl) (by first | (simp; done) | (simp; omega) | omega) ?_
    exact ⟨rfl, _, by simpa using hs.1, by simpa using hk.trans hs.2⟩
theorem wbytes_ok (h : AHeap) (F : Nat → Prop) (id : Nat) (l : List UInt8) (hw : Wr h F id l false) (hl : l.length ≤ 100000000) :
    ACalls Tryz.prog 57 [.ptr id 0] h fun r h' => r = .tuple [.list (l.map b8) .no, .int .i64 0] ∧ h' = h := by
  refine acalls_of_awp Tryz.func57 rfl (by simp only [List.length_cons, List.length_nil]; decide) ?_
  simp only [params_cons, params_nil]
  obtain ⟨w1, w2, t, w3, w4⟩ := hw
  repeat (first | ((first | refine zd ?_ | refine zx ?_ | refine zk ?_ | refine zl ?_ | refine zr ?_); refine zq ?_) | refine zs ?_ | refine zh (by simp -implicitDefEqProofs (disch := (first | omega | (simp; done) | fail)) [if_pos, if_neg, wrap_i64, tmod_pos, tdiv_pos, Int.toNat_add, w3]; rfl) ?_ | refine zb ?_ | refine zo ?_ | refine zt ?_ | refine zf ?_)
  first | refine zy (.inr rfl) ?_ | refine zy (.inl rfl) ?_
  simp
theorem wbytes_bad (h : AHeap) (F : Nat → Prop) (id : Nat) (l : List UInt8) (hw : Wr h F id l true) (hl : l.length ≤ 100000000) :
    ACalls Tryz.prog 57 [.ptr id 0] h fun r h' => r = .tuple [.list [] .no, .int .i64 1] ∧ h' = h := by
  refine acalls_of_awp Tryz.func57 rfl (by simp only [List.length_cons, List.length_nil]; decide) ?_
  simp only [params_cons, params_nil]
  obtain ⟨w1, w2, t, w3, w4⟩ := hw
  repeat (first | ((first | refine zd ?_ | refine zx ?_ | refine zk ?_ | refine zl ?_ | refine zr ?_); refine zq ?_) | refine zs ?_ | refine zh (by simp -implicitDefEqProofs (disch := (first | omega | (simp; done) | fail)) [if_pos, if_neg, wrap_i64, tmod_pos, tdiv_pos, Int.toNat_add, w3]; rfl) ?_ | refine zb ?_ | refine zo ?_ | refine zt ?_ | refine zf ?_)
  first | refine zY (.inr rfl) ?_ | refine zY (.inl rfl) ?_
  simp
end Go.Proofs.YtdncoobpdllpkaaGreat.N

/- Numbers as bytes: the reader's number. -/
set_option linter.unusedVariables false
set_option linter.unusedSimpArgs false
set_option maxRecDepth 20000
namespace Go.Proofs.YtdncoobpdllpkaaGreat.N
open Go Go.Proofs.YtdncoobpdllpkaaGreat.V
theorem awp_jumps1 {P : Program} {Q : Post} {st : ASt} {c rest : Code} (l : Nat) (I : Nat → ASt → Prop) (hf : findLabel c l = some (.seq .skip rest))
    (pass : ∀ n st, I n st → AWP (E0 P) rest (Post.jump l (fun s => ∃ m, m < n ∧ I m s) Q) st)
    (first : (∀ n st, I n st → AWP (E0 P) rest (Post.jump l (fun s => ∃ n, I n s) Q) st) → AWP (E0 P) c (Post.jump l (fun s => ∃ n, I n s) Q) st) : AWP (E0 P) (.scope c) Q st := by
  refine awp_jumps l I hf (first fun n st hi => (pass n st hi).mono fun e s hq => ?_) fun n st hi => awp_seq (awp_skip (pass n st hi))
  cases e with
  | goto i => exact ⟨hq.1, hq.2.imp fun _ h => h.2⟩
  | _ => exact hq
/-- How long a number is written; 0: it can't be. -/
def szB (n : Nat) : Nat := if n ≤ 281474976710656 then (nb n).length else 0
theorem size_any (n : Nat) (h : AHeap) : ACalls Tryz.prog 94 [.int .i64 (n : Nat)] h fun r h' => r = .int .i64 (szB n : Nat) ∧ h' = h := by
  unfold szB
  by_cases hn : n ≤ 281474976710656
  · rw [if_pos hn]; exact size_ok n hn h
  · have hc : canB (n : Int) = false := by simp [canB]; omega
    rw [if_neg hn]
    refine acalls_of_awp Tryz.func94 rfl (by simp only [List.length_cons, List.length_nil]; decide) ?_
    simp only [params_cons, params_nil]
    repeat (first | ((first | refine zd ?_ | refine zx ?_ | refine zk ?_ | refine zl ?_ | refine zr ?_); refine zq ?_) | refine zs ?_ | refine zg ?_ | refine zb ?_ | refine zo ?_ | refine zt ?_ | refine zf ?_)
    refine zp (callable_of Tryz.func68) _ (right_ok n _) ?_
    rintro _ h ⟨rfl, rfl⟩
    rw [hc]
    refine ze ?_
    repeat (first | ((first | refine zd ?_ | refine zx ?_ | refine zk ?_ | refine zl ?_ | refine zr ?_); refine zq ?_) | refine zs ?_ | refine zg ?_ | refine zb ?_ | refine zo ?_ | refine zt ?_ | refine zf ?_)
    first | refine zY (.inr rfl) ?_ | refine zY (.inl rfl) ?_
    simp
theorem u64_small (n : Int) (h : 0 ≤ n) (h2 : n < 100) : IntKind.u64.wrap n = n := by
  have : n = 0 ∨ n = 7 ∨ n = 14 ∨ True := by simp
  rw [IntKind.wrap_u64]; omega
/-- The number that is read: its value, how many bytes, what is wrong. -/
def numG : Nat → Nat → Nat → List UInt8 → Nat × Nat × Nat
  | 0, _, _, _ => (0, 0, 11)
  | _ + 1, _, _, [] => (0, 0, 10)
  | f + 1, i, n, d :: r =>
    if 128 ≤ d.toNat then numG f (i + 1) (n + d.toNat % 128 * 128 ^ i) r
    else if szB (n + d.toNat % 128 * 128 ^ i) = i + 1 then (n + d.toNat % 128 * 128 ^ i, i + 1, 0) else (0, 0, 11)
def numB (l : List UInt8) : Nat × Nat × Nat := numG 8 0 0 l
theorem or_add (a b : Nat) (i : Nat) (h : a < 2 ^ i) : a ||| b * 2 ^ i = a + b * 2 ^ i := by
  have := Nat.two_pow_add_eq_or_of_lt h b
  rw [Nat.or_comm, Nat.mul_comm b, ← this]; omega
theorem i64_bv (x : Nat) : (BitVec.ofInt 64 (x : Int)) = BitVec.ofNat 64 x := by simp
theorem or64 (a b i : Nat) (ha : a < 2 ^ i) (hb : a + b * 2 ^ i < 9223372036854775808) : bits .or .i64 (a : Int) ((b * 2 ^ i : Nat) : Int) = ((a + b * 2 ^ i : Nat) : Int) := by
  have h1 : a % 2 ^ 64 = a := Nat.mod_eq_of_lt (by omega)
  have h2 : b * 2 ^ i % 2 ^ 64 = b * 2 ^ i := Nat.mod_eq_of_lt (by omega)
  have h3 : ((BitVec.ofInt 64 (a : Int)) ||| (BitVec.ofInt 64 ((b * 2 ^ i : Nat) : Int))).toNat = a + b * 2 ^ i := by
    rw [i64_bv, i64_bv, BitVec.toNat_or, BitVec.toNat_ofNat, BitVec.toNat_ofNat, h1, h2, or_add a b i ha]
  show IntKind.wrap .i64 (((BitVec.ofInt 64 (a : Int)) ||| (BitVec.ofInt 64 ((b * 2 ^ i : Nat) : Int))).toNat : Int) = _
  rw [h3]
  exact wrap_i64 (by omega) (by omega)
theorem and127_all : ∀ x : Fin 256, bits .and .i64 ((x.val : Nat) : Int) 127 = ((x.val % 128 : Nat) : Int) := by decide +kernel
theorem and127 (d : UInt8) : bits .and .i64 ((d.toNat : Nat) : Int) 127 = ((d.toNat % 128 : Nat) : Int) := and127_all ⟨d.toNat, d.toNat_lt⟩
theorem number_ok (l : List UInt8) (t : Tok) (hl : l.length ≤ 100000000) (h : AHeap) : ACalls Tryz.prog 82 [.list (l.map b8) t] h fun r h' => r = .tuple [.int .i64 ((numB l).1 : Nat), .int .i64 ((numB l).2.1 : Nat), .int .i64 ((numB l).2.2 : Nat)] ∧ h' = h := by
  refine acalls_of_awp Tryz.func82 rfl (by simp only [List.length_cons, List.length_nil]; decide) ?_
  simp only [params_cons, params_nil]
  refine awp_seq (awp_region' ?_)
  refine zn ?_
  refine goes_done ?_
  simp only [vq, if_true, reduceIte, Nat.reduceEqDiff, reduceCtorEq]
  refine awp_jumps1 (rest := ?rest) 0 (fun k st => ∃ i nv : Nat, k = 8 - i ∧ i ≤ 8 ∧ i ≤ l.length ∧ nv < 128 ^ i ∧ numG (8 - i) i nv (l.drop i) = numB l ∧ st.le ⟨Tryz.f82.ntmps, [(0, .list (l.map b8) t), (5, .int .i64 nv), (6, .int .i64 i)], h⟩) ?hf ?pass ?first
  case hf => rfl
  · rintro k st ⟨i, nv, rfl, hi, hil, hnv, hg, hle⟩
    refine awp_le hle ?_
    have hfu : 8 - i = 0 ∨ ∃ f, 8 - i = f + 1 := by cases 8 - i <;> simp
    by_cases h8 : i = 8
    · subst h8
      have he : numB l = (0, 0, 11) := hg.symm
      repeat (first | ((first | refine zd ?_ | refine zx ?_ | refine zk ?_ | refine zl ?_ | refine zr ?_); refine zq ?_) | refine zs ?_ | refine zg ?_ | refine zb ?_ | refine zo ?_ | refine zt ?_ | refine zf ?_)
      first | refine zY (.inr rfl) ?_ | refine zY (.inl rfl) ?_
      simp [he]
    by_cases h9 : i = l.length
    · obtain ⟨f, hf⟩ := hfu.resolve_left (by omega)
      have he : numB l = (0, 0, 10) := by rw [← hg, hf, h9, List.drop_length]; rfl
      repeat (first | ((first | refine zd ?_ | refine zx ?_ | refine zk ?_ | refine zl ?_ | refine zr ?_); refine zq ?_) | refine zs ?_ | refine zg ?_ | refine zb ?_ | refine zo ?_ | refine zt ?_ | refine zf ?_)
      refine awp_cond rfl (fun hq => by exfalso; simp at hq; omega) (fun _ => ?_)
      repeat (first | ((first | refine zd ?_ | refine zx ?_ | refine zk ?_ | refine zl ?_ | refine zr ?_); refine zq ?_) | refine zs ?_ | refine zg ?_ | refine zb ?_ | refine zo ?_ | refine zt ?_ | refine zf ?_)
      refine awp_cond rfl (fun _ => ?_) (fun hq => by exfalso; simp at hq; omega)
      repeat (first | ((first | refine zd ?_ | refine zx ?_ | refine zk ?_ | refine zl ?_ | refine zr ?_); refine zq ?_) | refine zs ?_ | refine zg ?_ | refine zb ?_ | refine zo ?_ | refine zt ?_ | refine zf ?_)
      first | refine zY (.inr rfl) ?_ | refine zY (.inl rfl) ?_
      simp [he]
    have hlt : i < l.length := by omega
    have hdr : l.drop i = l[i] :: l.drop (i + 1) := List.drop_eq_getElem_cons hlt
    have hi2 : i = 0 ∨ i = 1 ∨ i = 2 ∨ i = 3 ∨ i = 4 ∨ i = 5 ∨ i = 6 ∨ i = 7 := by omega
    rw [hdr] at hg
    clear hfu hi hil h8 h9 hdr
    generalize hd : l[i] = d at hg
    have hd2 : (List.map b8 l)[i]? = some (AV.int .u8 ((d.toNat : Nat) : Int)) := by simp [← hd, hlt, b8]
    have hdb := d.toNat_lt
    clear hd
    rcases hi2 with rfl | rfl | rfl | rfl | rfl | rfl | rfl | rfl
    · simp only [numG, Nat.reducePow, Nat.reduceAdd, Nat.reduceSub] at hg hnv
      have ho : bits .or .i64 (nv : Int) ((d.toNat : Int) % 128 * 1) = ((nv + d.toNat % 128 * 1 : Nat) : Int) := by
        rw [← or64 nv (d.toNat % 128) 0 (by omega) (by omega)]; simp
      have hm2 : nv + d.toNat % 128 * 1 < 128 ^ 1 := by simp only [Nat.reducePow]; omega
      generalize hm : nv + d.toNat % 128 * 1 = m at hg ho hm2
      try simp only [Int.mul_one] at ho
      repeat (first | ((first | refine zd ?_ | refine zx ?_ | refine zk ?_ | refine zl ?_ | refine zr ?_); refine zq ?_) | refine zs ?_ | refine zg ?_ | refine zb ?_ | refine zo ?_ | refine zt ?_ | refine zf ?_)
      refine awp_cond rfl (fun hq => by exfalso; first | (simp at hq; omega) | (simp at hq; simp [hq] at hlt)) (fun _ => ?_)
      repeat (first | ((first | refine zd ?_ | refine zx ?_ | refine zk ?_ | refine zl ?_ | refine zr ?_); refine zq ?_) | refine zs ?_ | refine zh (by simp -implicitDefEqProofs (disch := (first | omega | (simp; done) | fail)) [if_pos, if_neg, wrap_i64, tmod_pos, tdiv_pos, Int.toNat_add, hd2, and127, u64_small, ho]; rfl) ?_ | refine zb ?_ | refine zo ?_ | refine zt ?_ | refine zf ?_)
      refine awp_cond rfl (fun hb => ?_) (fun hb => ?_)
      · simp at hb
        rw [if_pos (by omega)] at hg
        refine awp_goto ?_
        exact ⟨rfl, 8 - 1, by omega, 1, m, rfl, by omega, by omega, hm2, hg, st_keep' (by simp []) (by simp [])⟩
      · simp at hb
        rw [if_neg (by omega)] at hg
        repeat (first | ((first | refine zd ?_ | refine zx ?_ | refine zk ?_ | refine zl ?_ | refine zr ?_); refine zq ?_) | refine zs ?_ | refine zg ?_ | refine zb ?_ | refine zo ?_ | refine zt ?_ | refine zf ?_)
        refine zp (callable_of Tryz.func94) _ (size_any m _) ?_
        rintro _ _ ⟨rfl, rfl⟩
        by_cases hs : szB m = 1
        · rw [if_pos hs] at hg
          refine goes_eq (by simp -implicitDefEqProofs (disch := (first | omega | (simp; done) | fail)) [if_pos, if_neg, wrap_i64, tmod_pos, tdiv_pos, Int.toNat_add, hs]; rfl) ?_
          repeat (first | ((first | refine zd ?_ | refine zx ?_ | refine zk ?_ | refine zl ?_ | refine zr ?_); refine zq ?_) | refine zs ?_ | refine zh (by simp -implicitDefEqProofs (disch := (first | omega | (simp; done) | fail)) [if_pos, if_neg, wrap_i64, tmod_pos, tdiv_pos, Int.toNat_add, hs]; rfl) ?_ | refine zb ?_ | refine zo ?_ | refine zt ?_ | refine zf ?_)
          first | refine zY (.inr rfl) ?_ | refine zY (.inl rfl) ?_
          simp [← hg]
        · rw [if_neg hs] at hg
          have hs2 : ((szB m : Int) != 1) = true := by simp; omega
          refine goes_eq (by simp -implicitDefEqProofs (disch := (first | omega | (simp; done) | fail)) [if_pos, if_neg, wrap_i64, tmod_pos, tdiv_pos, Int.toNat_add, hs2]; rfl) ?_
          repeat (first | ((first | refine zd ?_ | refine zx ?_ | refine zk ?_ | refine zl ?_ | refine zr ?_); refine zq ?_) | refine zs ?_ | refine zh (by simp -implicitDefEqProofs (disch := (first | omega | (simp; done) | fail)) [if_pos, if_neg, wrap_i64, tmod_pos, tdiv_pos, Int.toNat_add, hs2]; rfl) ?_ | refine zb ?_ | refine zo ?_ | refine zt ?_ | refine zf ?_)
          first | refine zY (.inr rfl) ?_ | refine zY (.inl rfl) ?_
          simp [← hg]
    · simp only [numG, Nat.reducePow, Nat.reduceAdd, Nat.reduceSub] at hg hnv
      have ho : bits .or .i64 (nv : Int) ((d.toNat : Int) % 128 * 128) = ((nv + d.toNat % 128 * 128 : Nat) : Int) := by
        rw [← or64 nv (d.toNat % 128) 7 (by omega) (by omega)]; simp
      have hm2 : nv + d.toNat % 128 * 128 < 128 ^ 2 := by simp only [Nat.reducePow]; omega
      generalize hm : nv + d.toNat % 128 * 128 = m at hg ho hm2
      try simp only [Int.mul_one] at ho
      repeat (first | ((first | refine zd ?_ | refine zx ?_ | refine zk ?_ | refine zl ?_ | refine zr ?_); refine zq ?_) | refine zs ?_ | refine zg ?_ | refine zb ?_ | refine zo ?_ | refine zt ?_ | refine zf ?_)
      refine awp_cond rfl (fun hq => by exfalso; first | (simp at hq; omega) | (simp at hq; simp [hq] at hlt)) (fun _ => ?_)
      repeat (first | ((first | refine zd ?_ | refine zx ?_ | refine zk ?_ | refine zl ?_ | refine zr ?_); refine zq ?_) | refine zs ?_ | refine zh (by simp -implicitDefEqProofs (disch := (first | omega | (simp; done) | fail)) [if_pos, if_neg, wrap_i64, tmod_pos, tdiv_pos, Int.toNat_add, hd2, and127, u64_small, ho]; rfl) ?_ | refine zb ?_ | refine zo ?_ | refine zt ?_ | refine zf ?_)
      refine awp_cond rfl (fun hb => ?_) (fun hb => ?_)
      · simp at hb
        rw [if_pos (by omega)] at hg
        refine awp_goto ?_
        exact ⟨rfl, 8 - 2, by omega, 2, m, rfl, by omega, by omega, hm2, hg, st_keep' (by simp []) (by simp [])⟩
      · simp at hb
        rw [if_neg (by omega)] at hg
        repeat (first | ((first | refine zd ?_ | refine zx ?_ | refine zk ?_ | refine zl ?_ | refine zr ?_); refine zq ?_) | refine zs ?_ | refine zg ?_ | refine zb ?_ | refine zo ?_ | refine zt ?_ | refine zf ?_)
        refine zp (callable_of Tryz.func94) _ (size_any m _) ?_
        rintro _ _ ⟨rfl, rfl⟩
        by_cases hs : szB m = 2
        · rw [if_pos hs] at hg
          refine goes_eq (by simp -implicitDefEqProofs (disch := (first | omega | (simp; done) | fail)) [if_pos, if_neg, wrap_i64, tmod_pos, tdiv_pos, Int.toNat_add, hs]; rfl) ?_
          repeat (first | ((first | refine zd ?_ | refine zx ?_ | refine zk ?_ | refine zl ?_ | refine zr ?_); refine zq ?_) | refine zs ?_ | refine zh (by simp -implicitDefEqProofs (disch := (first | omega | (simp; done) | fail)) [if_pos, if_neg, wrap_i64, tmod_pos, tdiv_pos, Int.toNat_add, hs]; rfl) ?_ | refine zb ?_ | refine zo ?_ | refine zt ?_ | refine zf ?_)
          first | refine zY (.inr rfl) ?_ | refine zY (.inl rfl) ?_
          simp [← hg]
        · rw [if_neg hs] at hg
          have hs2 : ((szB m : Int) != 2) = true := by simp; omega
          refine goes_eq (by simp -implicitDefEqProofs (disch := (first | omega | (simp; done) | fail)) [if_pos, if_neg, wrap_i64, tmod_pos, tdiv_pos, Int.toNat_add, hs2]; rfl) ?_
          repeat (first | ((first | refine zd ?_ | refine zx ?_ | refine zk ?_ | refine zl ?_ | refine zr ?_); refine zq ?_) | refine zs ?_ | refine zh (by simp -implicitDefEqProofs (disch := (first | omega | (simp; done) | fail)) [if_pos, if_neg, wrap_i64, tmod_pos, tdiv_pos, Int.toNat_add, hs2]; rfl) ?_ | refine zb ?_ | refine zo ?_ | refine zt ?_ | refine zf ?_)
          first | refine zY (.inr rfl) ?_ | refine zY (.inl rfl) ?_
          simp [← hg]
    · simp only [numG, Nat.reducePow, Nat.reduceAdd, Nat.reduceSub] at hg hnv
      have ho : bits .or .i64 (nv : Int) ((d.toNat : Int) % 128 * 16384) = ((nv + d.toNat % 128 * 16384 : Nat) : Int) := by
        rw [← or64 nv (d.toNat % 128) 14 (by omega) (by omega)]; simp
      have hm2 : nv + d.toNat % 128 * 16384 < 128 ^ 3 := by simp only [Nat.reducePow]; omega
      generalize hm : nv + d.toNat % 128 * 16384 = m at hg ho hm2
      try simp only [Int.mul_one] at ho
      repeat (first | ((first | refine zd ?_ | refine zx ?_ | refine zk ?_ | refine zl ?_ | refine zr ?_); refine zq ?_) | refine zs ?_ | refine zg ?_ | refine zb ?_ | refine zo ?_ | refine zt ?_ | refine zf ?_)
      refine awp_cond rfl (fun hq => by exfalso; first | (simp at hq; omega) | (simp at hq; simp [hq] at hlt)) (fun _ => ?_)
      repeat (first | ((first | refine zd ?_ | refine zx ?_ | refine zk ?_ | refine zl ?_ | refine zr ?_); refine zq ?_) | refine zs ?_ | refine zh (by simp -implicitDefEqProofs (disch := (first | omega | (simp; done) | fail)) [if_pos, if_neg, wrap_i64, tmod_pos, tdiv_pos, Int.toNat_add, hd2, and127, u64_small, ho]; rfl) ?_ | refine zb ?_ | refine zo ?_ | refine zt ?_ | refine zf ?_)
      refine awp_cond rfl (fun hb => ?_) (fun hb => ?_)
      · simp at hb
        rw [if_pos (by omega)] at hg
        refine awp_goto ?_
        exact ⟨rfl, 8 - 3, by omega, 3, m, rfl, by omega, by omega, hm2, hg, st_keep' (by simp []) (by simp [])⟩
      · simp at hb
        rw [if_neg (by omega)] at hg
        repeat (first | ((first | refine zd ?_ | refine zx ?_ | refine zk ?_ | refine zl ?_ | refine zr ?_); refine zq ?_) | refine zs ?_ | refine zg ?_ | refine zb ?_ | refine zo ?_ | refine zt ?_ | refine zf ?_)
        refine zp (callable_of Tryz.func94) _ (size_any m _) ?_
        rintro _ _ ⟨rfl, rfl⟩
        by_cases hs : szB m = 3
        · rw [if_pos hs] at hg
          refine goes_eq (by simp -implicitDefEqProofs (disch := (first | omega | (simp; done) | fail)) [if_pos, if_neg, wrap_i64, tmod_pos, tdiv_pos, Int.toNat_add, hs]; rfl) ?_
          repeat (first | ((first | refine zd ?_ | refine zx ?_ | refine zk ?_ | refine zl ?_ | refine zr ?_); refine zq ?_) | refine zs ?_ | refine zh (by simp -implicitDefEqProofs (disch := (first | omega | (simp; done) | fail)) [if_pos, if_neg, wrap_i64, tmod_pos, tdiv_pos, Int.toNat_add, hs]; rfl) ?_ | refine zb ?_ | refine zo ?_ | refine zt ?_ | refine zf ?_)
          first | refine zY (.inr rfl) ?_ | refine zY (.inl rfl) ?_
          simp [← hg]
        · rw [if_neg hs] at hg
          have hs2 : ((szB m : Int) != 3) = true := by simp; omega
          refine goes_eq (by simp -implicitDefEqProofs (disch := (first | omega | (simp; done) | fail)) [if_pos, if_neg, wrap_i64, tmod_pos, tdiv_pos, Int.toNat_add, hs2]; rfl) ?_
          repeat (first | ((first | refine zd ?_ | refine zx ?_ | refine zk ?_ | refine zl ?_ | refine zr ?_); refine zq ?_) | refine zs ?_ | refine zh (by simp -implicitDefEqProofs (disch := (first | omega | (simp; done) | fail)) [if_pos, if_neg, wrap_i64, tmod_pos, tdiv_pos, Int.toNat_add, hs2]; rfl) ?_ | refine zb ?_ | refine zo ?_ | refine zt ?_ | refine zf ?_)
          first | refine zY (.inr rfl) ?_ | refine zY (.inl rfl) ?_
          simp [← hg]
    · simp only [numG, Nat.reducePow, Nat.reduceAdd, Nat.reduceSub] at hg hnv
      have ho : bits .or .i64 (nv : Int) ((d.toNat : Int) % 128 * 2097152) = ((nv + d.toNat % 128 * 2097152 : Nat) : Int) := by
        rw [← or64 nv (d.toNat % 128) 21 (by omega) (by omega)]; simp
      have hm2 : nv + d.toNat % 128 * 2097152 < 128 ^ 4 := by simp only [Nat.reducePow]; omega
      generalize hm : nv + d.toNat % 128 * 2097152 = m at hg ho hm2
      try simp only [Int.mul_one] at ho
      repeat (first | ((first | refine zd ?_ | refine zx ?_ | refine zk ?_ | refine zl ?_ | refine zr ?_); refine zq ?_) | refine zs ?_ | refine zg ?_ | refine zb ?_ | refine zo ?_ | refine zt ?_ | refine zf ?_)
      refine awp_cond rfl (fun hq => by exfalso; first | (simp at hq; omega) | (simp at hq; simp [hq] at hlt)) (fun _ => ?_)
      repeat (first | ((first | refine zd ?_ | refine zx ?_ | refine zk ?_ | refine zl ?_ | refine zr ?_); refine zq ?_) | refine zs ?_ | refine zh (by simp -implicitDefEqProofs (disch := (first | omega | (simp; done) | fail)) [if_pos, if_neg, wrap_i64, tmod_pos, tdiv_pos, Int.toNat_add, hd2, and127, u64_small, ho]; rfl) ?_ | refine zb ?_ | refine zo ?_ | refine zt ?_ | refine zf ?_)
      refine awp_cond rfl (fun hb => ?_) (fun hb => ?_)
      · simp at hb
        rw [if_pos (by omega)] at hg
        refine awp_goto ?_
        exact ⟨rfl, 8 - 4, by omega, 4, m, rfl, by omega, by omega, hm2, hg, st_keep' (by simp []) (by simp [])⟩
      · simp at hb
        rw [if_neg (by omega)] at hg
        repeat (first | ((first | refine zd ?_ | refine zx ?_ | refine zk ?_ | refine zl ?_ | refine zr ?_); refine zq ?_) | refine zs ?_ | refine zg ?_ | refine zb ?_ | refine zo ?_ | refine zt ?_ | refine zf ?_)
        refine zp (callable_of Tryz.func94) _ (size_any m _) ?_
        rintro _ _ ⟨rfl, rfl⟩
        by_cases hs : szB m = 4
        · rw [if_pos hs] at hg
          refine goes_eq (by simp -implicitDefEqProofs (disch := (first | omega | (simp; done) | fail)) [if_pos, if_neg, wrap_i64, tmod_pos, tdiv_pos, Int.toNat_add, hs]; rfl) ?_
          repeat (first | ((first | refine zd ?_ | refine zx ?_ | refine zk ?_ | refine zl ?_ | refine zr ?_); refine zq ?_) | refine zs ?_ | refine zh (by simp -implicitDefEqProofs (disch := (first | omega | (simp; done) | fail)) [if_pos, if_neg, wrap_i64, tmod_pos, tdiv_pos, Int.toNat_add, hs]; rfl) ?_ | refine zb ?_ | refine zo ?_ | refine zt ?_ | refine zf ?_)
          first | refine zY (.inr rfl) ?_ | refine zY (.inl rfl) ?_
          simp [← hg]
        · rw [if_neg hs] at hg
          have hs2 : ((szB m : Int) != 4) = true := by simp; omega
          refine goes_eq (by simp -implicitDefEqProofs (disch := (first | omega | (simp; done) | fail)) [if_pos, if_neg, wrap_i64, tmod_pos, tdiv_pos, Int.toNat_add, hs2]; rfl) ?_
          repeat (first | ((first | refine zd ?_ | refine zx ?_ | refine zk ?_ | refine zl ?_ | refine zr ?_); refine zq ?_) | refine zs ?_ | refine zh (by simp -implicitDefEqProofs (disch := (first | omega | (simp; done) | fail)) [if_pos, if_neg, wrap_i64, tmod_pos, tdiv_pos, Int.toNat_add, hs2]; rfl) ?_ | refine zb ?_ | refine zo ?_ | refine zt ?_ | refine zf ?_)
          first | refine zY (.inr rfl) ?_ | refine zY (.inl rfl) ?_
          simp [← hg]
    · simp only [numG, Nat.reducePow, Nat.reduceAdd, Nat.reduceSub] at hg hnv
      have ho : bits .or .i64 (nv : Int) ((d.toNat : Int) % 128 * 268435456) = ((nv + d.toNat % 128 * 268435456 : Nat) : Int) := by
        rw [← or64 nv (d.toNat % 128) 28 (by omega) (by omega)]; simp
      have hm2 : nv + d.toNat % 128 * 268435456 < 128 ^ 5 := by simp only [Nat.reducePow]; omega
      generalize hm : nv + d.toNat % 128 * 268435456 = m at hg ho hm2
      try simp only [Int.mul_one] at ho
      repeat (first | ((first | refine zd ?_ | refine zx ?_ | refine zk ?_ | refine zl ?_ | refine zr ?_); refine zq ?_) | refine zs ?_ | refine zg ?_ | refine zb ?_ | refine zo ?_ | refine zt ?_ | refine zf ?_)
      refine awp_cond rfl (fun hq => by exfalso; first | (simp at hq; omega) | (simp at hq; simp [hq] at hlt)) (fun _ => ?_)
      repeat (first | ((first | refine zd ?_ | refine zx ?_ | refine zk ?_ | refine zl ?_ | refine zr ?_); refine zq ?_) | refine zs ?_ | refine zh (by simp -implicitDefEqProofs (disch := (first | omega | (simp; done) | fail)) [if_pos, if_neg, wrap_i64, tmod_pos, tdiv_pos, Int.toNat_add, hd2, and127, u64_small, ho]; rfl) ?_ | refine zb ?_ | refine zo ?_ | refine zt ?_ | refine zf ?_)
      refine awp_cond rfl (fun hb => ?_) (fun hb => ?_)
      · simp at hb
        rw [if_pos (by omega)] at hg
        refine awp_goto ?_
        exact ⟨rfl, 8 - 5, by omega, 5, m, rfl, by omega, by omega, hm2, hg, st_keep' (by simp []) (by simp [])⟩
      · simp at hb
        rw [if_neg (by omega)] at hg
        repeat (first | ((first | refine zd ?_ | refine zx ?_ | refine zk ?_ | refine zl ?_ | refine zr ?_); refine zq ?_) | refine zs ?_ | refine zg ?_ | refine zb ?_ | refine zo ?_ | refine zt ?_ | refine zf ?_)
        refine zp (callable_of Tryz.func94) _ (size_any m _) ?_
        rintro _ _ ⟨rfl, rfl⟩
        by_cases hs : szB m = 5
        · rw [if_pos hs] at hg
          refine goes_eq (by simp -implicitDefEqProofs (disch := (first | omega | (simp; done) | fail)) [if_pos, if_neg, wrap_i64, tmod_pos, tdiv_pos, Int.toNat_add, hs]; rfl) ?_
          repeat (first | ((first | refine zd ?_ | refine zx ?_ | refine zk ?_ | refine zl ?_ | refine zr ?_); refine zq ?_) | refine zs ?_ | refine zh (by simp -implicitDefEqProofs (disch := (first | omega | (simp; done) | fail)) [if_pos, if_neg, wrap_i64, tmod_pos, tdiv_pos, Int.toNat_add, hs]; rfl) ?_ | refine zb ?_ | refine zo ?_ | refine zt ?_ | refine zf ?_)
          first | refine zY (.inr rfl) ?_ | refine zY (.inl rfl) ?_
          simp [← hg]
        · rw [if_neg hs] at hg
          have hs2 : ((szB m : Int) != 5) = true := by simp; omega
          refine goes_eq (by simp -implicitDefEqProofs (disch := (first | omega | (simp; done) | fail)) [if_pos, if_neg, wrap_i64, tmod_pos, tdiv_pos, Int.toNat_add, hs2]; rfl) ?_
          repeat (first | ((first | refine zd ?_ | refine zx ?_ | refine zk ?_ | refine zl ?_ | refine zr ?_); refine zq ?_) | refine zs ?_ | refine zh (by simp -implicitDefEqProofs (disch := (first | omega | (simp; done) | fail)) [if_pos, if_neg, wrap_i64, tmod_pos, tdiv_pos, Int.toNat_add, hs2]; rfl) ?_ | refine zb ?_ | refine zo ?_ | refine zt ?_ | refine zf ?_)
          first | refine zY (.inr rfl) ?_ | refine zY (.inl rfl) ?_
          simp [← hg]
    · simp only [numG, Nat.reducePow, Nat.reduceAdd, Nat.reduceSub] at hg hnv
      have ho : bits .or .i64 (nv : Int) ((d.toNat : Int) % 128 * 34359738368) = ((nv + d.toNat % 128 * 34359738368 : Nat) : Int) := by
        rw [← or64 nv (d.toNat % 128) 35 (by omega) (by omega)]; simp
      have hm2 : nv + d.toNat % 128 * 34359738368 < 128 ^ 6 := by simp only [Nat.reducePow]; omega
      generalize hm : nv + d.toNat % 128 * 34359738368 = m at hg ho hm2
      try simp only [Int.mul_one] at ho
      repeat (first | ((first | refine zd ?_ | refine zx ?_ | refine zk ?_ | refine zl ?_ | refine zr ?_); refine zq ?_) | refine zs ?_ | refine zg ?_ | refine zb ?_ | refine zo ?_ | refine zt ?_ | refine zf ?_)
      refine awp_cond rfl (fun hq => by exfalso; first | (simp at hq; omega) | (simp at hq; simp [hq] at hlt)) (fun _ => ?_)
      repeat (first | ((first | refine zd ?_ | refine zx ?_ | refine zk ?_ | refine zl ?_ | refine zr ?_); refine zq ?_) | refine zs ?_ | refine zh (by simp -implicitDefEqProofs (disch := (first | omega | (simp; done) | fail)) [if_pos, if_neg, wrap_i64, tmod_pos, tdiv_pos, Int.toNat_add, hd2, and127, u64_small, ho]; rfl) ?_ | refine zb ?_ | refine zo ?_ | refine zt ?_ | refine zf ?_)
      refine awp_cond rfl (fun hb => ?_) (fun hb => ?_)
      · simp at hb
        rw [if_pos (by omega)] at hg
        refine awp_goto ?_
        exact ⟨rfl, 8 - 6, by omega, 6, m, rfl, by omega, by omega, hm2, hg, st_keep' (by simp []) (by simp [])⟩
      · simp at hb
        rw [if_neg (by omega)] at hg
        repeat (first | ((first | refine zd ?_ | refine zx ?_ | refine zk ?_ | refine zl ?_ | refine zr ?_); refine zq ?_) | refine zs ?_ | refine zg ?_ | refine zb ?_ | refine zo ?_ | refine zt ?_ | refine zf ?_)
        refine zp (callable_of Tryz.func94) _ (size_any m _) ?_
        rintro _ _ ⟨rfl, rfl⟩
        by_cases hs : szB m = 6
        · rw [if_pos hs] at hg
          refine goes_eq (by simp -implicitDefEqProofs (disch := (first | omega | (simp; done) | fail)) [if_pos, if_neg, wrap_i64, tmod_pos, tdiv_pos, Int.toNat_add, hs]; rfl) ?_
          repeat (first | ((first | refine zd ?_ | refine zx ?_ | refine zk ?_ | refine zl ?_ | refine zr ?_); refine zq ?_) | refine zs ?_ | refine zh (by simp -implicitDefEqProofs (disch := (first | omega | (simp; done) | fail)) [if_pos, if_neg, wrap_i64, tmod_pos, tdiv_pos, Int.toNat_add, hs]; rfl) ?_ | refine zb ?_ | refine zo ?_ | refine zt ?_ | refine zf ?_)
          first | refine zY (.inr rfl) ?_ | refine zY (.inl rfl) ?_
          simp [← hg]
        · rw [if_neg hs] at hg
          have hs2 : ((szB m : Int) != 6) = true := by simp; omega
          refine goes_eq (by simp -implicitDefEqProofs (disch := (first | omega | (simp; done) | fail)) [if_pos, if_neg, wrap_i64, tmod_pos, tdiv_pos, Int.toNat_add, hs2]; rfl) ?_
          repeat (first | ((first | refine zd ?_ | refine zx ?_ | refine zk ?_ | refine zl ?_ | refine zr ?_); refine zq ?_) | refine zs ?_ | refine zh (by simp -implicitDefEqProofs (disch := (first | omega | (simp; done) | fail)) [if_pos, if_neg, wrap_i64, tmod_pos, tdiv_pos, Int.toNat_add, hs2]; rfl) ?_ | refine zb ?_ | refine zo ?_ | refine zt ?_ | refine zf ?_)
          first | refine zY (.inr rfl) ?_ | refine zY (.inl rfl) ?_
          simp [← hg]
    · simp only [numG, Nat.reducePow, Nat.reduceAdd, Nat.reduceSub] at hg hnv
      have ho : bits .or .i64 (nv : Int) ((d.toNat : Int) % 128 * 4398046511104) = ((nv + d.toNat % 128 * 4398046511104 : Nat) : Int) := by
        rw [← or64 nv (d.toNat % 128) 42 (by omega) (by omega)]; simp
      have hm2 : nv + d.toNat % 128 * 4398046511104 < 128 ^ 7 := by simp only [Nat.reducePow]; omega
      generalize hm : nv + d.toNat % 128 * 4398046511104 = m at hg ho hm2
      try simp only [Int.mul_one] at ho
      repeat (first | ((first | refine zd ?_ | refine zx ?_ | refine zk ?_ | refine zl ?_ | refine zr ?_); refine zq ?_) | refine zs ?_ | refine zg ?_ | refine zb ?_ | refine zo ?_ | refine zt ?_ | refine zf ?_)
      refine awp_cond rfl (fun hq => by exfalso; first | (simp at hq; omega) | (simp at hq; simp [hq] at hlt)) (fun _ => ?_)
      repeat (first | ((first | refine zd ?_ | refine zx ?_ | refine zk ?_ | refine zl ?_ | refine zr ?_); refine zq ?_) | refine zs ?_ | refine zh (by simp -implicitDefEqProofs (disch := (first | omega | (simp; done) | fail)) [if_pos, if_neg, wrap_i64, tmod_pos, tdiv_pos, Int.toNat_add, hd2, and127, u64_small, ho]; rfl) ?_ | refine zb ?_ | refine zo ?_ | refine zt ?_ | refine zf ?_)
      refine awp_cond rfl (fun hb => ?_) (fun hb => ?_)
      · simp at hb
        rw [if_pos (by omega)] at hg
        refine awp_goto ?_
        exact ⟨rfl, 8 - 7, by omega, 7, m, rfl, by omega, by omega, hm2, hg, st_keep' (by simp []) (by simp [])⟩
      · simp at hb
        rw [if_neg (by omega)] at hg
        repeat (first | ((first | refine zd ?_ | refine zx ?_ | refine zk ?_ | refine zl ?_ | refine zr ?_); refine zq ?_) | refine zs ?_ | refine zg ?_ | refine zb ?_ | refine zo ?_ | refine zt ?_ | refine zf ?_)
        refine zp (callable_of Tryz.func94) _ (size_any m _) ?_
        rintro _ _ ⟨rfl, rfl⟩
        by_cases hs : szB m = 7
        · rw [if_pos hs] at hg
          refine goes_eq (by simp -implicitDefEqProofs (disch := (first | omega | (simp; done) | fail)) [if_pos, if_neg, wrap_i64, tmod_pos, tdiv_pos, Int.toNat_add, hs]; rfl) ?_
          repeat (first | ((first | refine zd ?_ | refine zx ?_ | refine zk ?_ | refine zl ?_ | refine zr ?_); refine zq ?_) | refine zs ?_ | refine zh (by simp -implicitDefEqProofs (disch := (first | omega | (simp; done) | fail)) [if_pos, if_neg, wrap_i64, tmod_pos, tdiv_pos, Int.toNat_add, hs]; rfl) ?_ | refine zb ?_ | refine zo ?_ | refine zt ?_ | refine zf ?_)
          first | refine zY (.inr rfl) ?_ | refine zY (.inl rfl) ?_
          simp [← hg]
        · rw [if_neg hs] at hg
          have hs2 : ((szB m : Int) != 7) = true := by simp; omega
          refine goes_eq (by simp -implicitDefEqProofs (disch := (first | omega | (simp; done) | fail)) [if_pos, if_neg, wrap_i64, tmod_pos, tdiv_pos, Int.toNat_add, hs2]; rfl) ?_
          repeat (first | ((first | refine zd ?_ | refine zx ?_ | refine zk ?_ | refine zl ?_ | refine zr ?_); refine zq ?_) | refine zs ?_ | refine zh (by simp -implicitDefEqProofs (disch := (first | omega | (simp; done) | fail)) [if_pos, if_neg, wrap_i64, tmod_pos, tdiv_pos, Int.toNat_add, hs2]; rfl) ?_ | refine zb ?_ | refine zo ?_ | refine zt ?_ | refine zf ?_)
          first | refine zY (.inr rfl) ?_ | refine zY (.inl rfl) ?_
          simp [← hg]
    · simp only [numG, Nat.reducePow, Nat.reduceAdd, Nat.reduceSub] at hg hnv
      have ho : bits .or .i64 (nv : Int) ((d.toNat : Int) % 128 * 562949953421312) = ((nv + d.toNat % 128 * 562949953421312 : Nat) : Int) := by
        rw [← or64 nv (d.toNat % 128) 49 (by omega) (by omega)]; simp
      have hm2 : nv + d.toNat % 128 * 562949953421312 < 128 ^ 8 := by simp only [Nat.reducePow]; omega
      generalize hm : nv + d.toNat % 128 * 562949953421312 = m at hg ho hm2
      try simp only [Int.mul_one] at ho
      repeat (first | ((first | refine zd ?_ | refine zx ?_ | refine zk ?_ | refine zl ?_ | refine zr ?_); refine zq ?_) | refine zs ?_ | refine zg ?_ | refine zb ?_ | refine zo ?_ | refine zt ?_ | refine zf ?_)
      refine awp_cond rfl (fun hq => by exfalso; first | (simp at hq; omega) | (simp at hq; simp [hq] at hlt)) (fun _ => ?_)
      repeat (first | ((first | refine zd ?_ | refine zx ?_ | refine zk ?_ | refine zl ?_ | refine zr ?_); refine zq ?_) | refine zs ?_ | refine zh (by simp -implicitDefEqProofs (disch := (first | omega | (simp; done) | fail)) [if_pos, if_neg, wrap_i64, tmod_pos, tdiv_pos, Int.toNat_add, hd2, and127, u64_small, ho]; rfl) ?_ | refine zb ?_ | refine zo ?_ | refine zt ?_ | refine zf ?_)
      refine awp_cond rfl (fun hb => ?_) (fun hb => ?_)
      · simp at hb
        rw [if_pos (by omega)] at hg
        refine awp_goto ?_
        exact ⟨rfl, 8 - 8, by omega, 8, m, rfl, by omega, by omega, hm2, hg, st_keep' (by simp []) (by simp [])⟩
      · simp at hb
        rw [if_neg (by omega)] at hg
        repeat (first | ((first | refine zd ?_ | refine zx ?_ | refine zk ?_ | refine zl ?_ | refine zr ?_); refine zq ?_) | refine zs ?_ | refine zg ?_ | refine zb ?_ | refine zo ?_ | refine zt ?_ | refine zf ?_)
        refine zp (callable_of Tryz.func94) _ (size_any m _) ?_
        rintro _ _ ⟨rfl, rfl⟩
        by_cases hs : szB m = 8
        · rw [if_pos hs] at hg
          refine goes_eq (by simp -implicitDefEqProofs (disch := (first | omega | (simp; done) | fail)) [if_pos, if_neg, wrap_i64, tmod_pos, tdiv_pos, Int.toNat_add, hs]; rfl) ?_
          repeat (first | ((first | refine zd ?_ | refine zx ?_ | refine zk ?_ | refine zl ?_ | refine zr ?_); refine zq ?_) | refine zs ?_ | refine zh (by simp -implicitDefEqProofs (disch := (first | omega | (simp; done) | fail)) [if_pos, if_neg, wrap_i64, tmod_pos, tdiv_pos, Int.toNat_add, hs]; rfl) ?_ | refine zb ?_ | refine zo ?_ | refine zt ?_ | refine zf ?_)
          first | refine zY (.inr rfl) ?_ | refine zY (.inl rfl) ?_
          simp [← hg]
        · rw [if_neg hs] at hg
          have hs2 : ((szB m : Int) != 8) = true := by simp; omega
          refine goes_eq (by simp -implicitDefEqProofs (disch := (first | omega | (simp; done) | fail)) [if_pos, if_neg, wrap_i64, tmod_pos, tdiv_pos, Int.toNat_add, hs2]; rfl) ?_
          repeat (first | ((first | refine zd ?_ | refine zx ?_ | refine zk ?_ | refine zl ?_ | refine zr ?_); refine zq ?_) | refine zs ?_ | refine zh (by simp -implicitDefEqProofs (disch := (first | omega | (simp; done) | fail)) [if_pos, if_neg, wrap_i64, tmod_pos, tdiv_pos, Int.toNat_add, hs2]; rfl) ?_ | refine zb ?_ | refine zo ?_ | refine zt ?_ | refine zf ?_)
          first | refine zY (.inr rfl) ?_ | refine zY (.inl rfl) ?_
          simp [← hg]
  · intro hp
    generalize hr : (Code.seq (Code.block 0 _) _) = R at hp ⊢
    repeat (first | ((first | refine zd ?_ | refine zx ?_ | refine zk ?_ | refine zl ?_ | refine zr ?_); refine zq ?_) | refine zs ?_ | refine zg ?_ | refine zb ?_ | refine zo ?_ | refine zt ?_ | refine zf ?_)
    exact hp 8 _ ⟨0, 0, rfl, by omega, by omega, by simp, rfl, st_keep' (by simp []) (by simp [])⟩
end Go.Proofs.YtdncoobpdllpkaaGreat.N

/- Numbers as bytes: the reader. -/
set_option linter.unusedVariables false
set_option linter.unusedSimpArgs false
set_option maxRecDepth 20000
namespace Go.Proofs.YtdncoobpdllpkaaGreat.N
open Go Go.Proofs.YtdncoobpdllpkaaGreat.V
attribute [-simp] List.map_take List.map_drop
attribute [local simp] take_map drop_map List.take_take
inductive Dig : List UInt8 → Nat → Prop
  | last (d : UInt8) : d.toNat < 128 → Dig [d] d.toNat
  | more (d : UInt8) (q : List UInt8) (v : Nat) : 128 ≤ d.toNat → Dig q v → Dig (d :: q) (d.toNat % 128 + 128 * v)
theorem Dig.ne {q : List UInt8} {v : Nat} (h : Dig q v) : q ≠ [] := by cases h <;> simp
theorem Dig.eq {q : List UInt8} {v : Nat} (h : Dig q v) (hl : (nb v).length = q.length) : q = nb v := by
  induction h with
  | last d hd => rw [nb_small hd]; congr 1; exact UInt8.toNat_inj.1 (by rw [b8n_toNat]; omega)
  | more d q v hd hq ih =>
    have hq0 : 0 < q.length := List.length_pos_iff.2 hq.ne
    have hlt := d.toNat_lt
    by_cases hs : d.toNat % 128 + 128 * v < 128
    · rw [nb_small hs] at hl; simp only [List.length_cons, List.length_nil] at hl; omega
    · rw [nb_big (by omega)] at hl ⊢
      have e1 : (d.toNat % 128 + 128 * v) / 128 = v := by omega
      have e2 : (d.toNat % 128 + 128 * v) % 128 = d.toNat % 128 := by omega
      rw [e1] at hl ⊢
      rw [e2]
      rw [← ih (by simpa using hl)]
      congr 1
      exact UInt8.toNat_inj.1 (by rw [b8n_toNat]; omega)
theorem numG_inv : ∀ (f i n0 : Nat) (l : List UInt8) (n k : Nat), numG f i n0 l = (n, k, 0) → ∃ q r v, l = q ++ r ∧ k = i + q.length ∧ n = n0 + v * 128 ^ i ∧ szB n = k ∧ Dig q v
  | 0, i, n0, l, n, k, h => by simp [numG] at h
  | f + 1, i, n0, [], n, k, h => by simp [numG] at h
  | f + 1, i, n0, d :: l, n, k, h => by
    have hlt := d.toNat_lt
    rw [numG] at h
    split at h
    · rename_i hd
      obtain ⟨q, r, v, rfl, rfl, rfl, hs, hq⟩ := numG_inv f (i + 1) _ l n k h
      refine ⟨d :: q, r, _, rfl, by simp; omega, ?_, hs, .more d q v hd hq⟩
      rw [Nat.pow_succ]
      simp only [Nat.add_mul, Nat.add_assoc]
      congr 2
      rw [Nat.mul_comm (128 ^ i) 128, ← Nat.mul_assoc, Nat.mul_comm v]
    · rename_i hd
      split at h
      · rename_i hs
        injection h with h1 h2
        injection h2 with h2 h3
        subst h1 h2
        have e : d.toNat % 128 = d.toNat := by omega
        rw [e] at hs ⊢
        exact ⟨[d], l, _, rfl, rfl, rfl, hs, .last d (by omega)⟩
      · simp at h
theorem numB_inv {l : List UInt8} {n k : Nat} (h : numB l = (n, k, 0)) : ∃ r, l = nb n ++ r ∧ k = (nb n).length ∧ n ≤ 281474976710656 := by
  obtain ⟨q, r, v, rfl, rfl, rfl, hs, hq⟩ := numG_inv 8 0 0 l n k h
  have hq0 : 0 < q.length := List.length_pos_iff.2 hq.ne
  simp only [Nat.zero_add, Nat.pow_zero, Nat.mul_one] at hs ⊢
  unfold szB at hs
  split at hs
  · rename_i hv
    rw [← hq.eq hs]
    exact ⟨r, rfl, rfl, hv⟩
  · omega
theorem numG_of : ∀ (m f i n0 : Nat) (r : List UInt8), i + (nb m).length ≤ f + i → szB (n0 + m * 128 ^ i) = i + (nb m).length → numG f i n0 (nb m ++ r) = (n0 + m * 128 ^ i, i + (nb m).length, 0) := by
  intro m
  induction m using Nat.strongRecOn with
  | _ m ih =>
    intro f i n0 r hf hs
    have hm8 : (128 + m % 128) % 256 = 128 + m % 128 := by omega
    by_cases hm : m < 128
    · rw [nb_small hm] at hf hs ⊢
      simp only [List.length_cons, List.length_nil, List.singleton_append] at hf hs ⊢
      obtain ⟨f, rfl⟩ : ∃ g, f = g + 1 := ⟨f - 1, by omega⟩
      have e : (b8n m).toNat = m := by rw [b8n_toNat]; omega
      rw [numG, e, if_neg (by omega), Nat.mod_eq_of_lt hm, if_pos hs]
    · rw [nb_big (by omega)] at hf hs ⊢
      simp only [List.length_cons, List.cons_append] at hf hs ⊢
      obtain ⟨f, rfl⟩ : ∃ g, f = g + 1 := ⟨f - 1, by omega⟩
      have e : (b8n (128 + m % 128)).toNat = 128 + m % 128 := by rw [b8n_toNat]; omega
      have e2 : (128 + m % 128) % 128 = m % 128 := by omega
      have e3 : n0 + m % 128 * 128 ^ i + m / 128 * 128 ^ (i + 1) = n0 + m * 128 ^ i := by
        rw [Nat.pow_succ, Nat.mul_comm (128 ^ i) 128, ← Nat.mul_assoc, Nat.add_assoc, ← Nat.add_mul]
        congr 2; omega
      rw [numG, e, if_pos (by omega), e2, ih (m / 128) (by omega) f (i + 1) _ r (by omega) (by rw [e3, hs]; omega), e3]
      congr 2
      omega
theorem numB_of {n : Nat} (h : n ≤ 281474976710656) (r : List UInt8) : numB (nb n ++ r) = (n, (nb n).length, 0) := by
  have h7 := nb_seven h
  have := numG_of n 8 0 0 r (by omega) (by simp [szB, h])
  simpa [numB] using this
/-- A reader: its object. -/
def Rd (h : AHeap) (id : Nat) (l : List UInt8) (e : Nat) : Prop := ∃ t, h[id]? = some (.cells [.list (l.map b8) t, .int .i64 (e : Nat)])
theorem rof_ok (l : List UInt8) (t : Tok) (h : AHeap) : ACalls Tryz.prog 39 [.list (l.map b8) t] h fun r h' => r = .ptr h.length 0 ∧ ∃ t', h' = h ++ [.cells [.list (l.map b8) t', .int .i64 0]] := by
  refine acalls_of_awp Tryz.func39 rfl (by simp only [List.length_cons, List.length_nil]; decide) ?_
  simp only [params_cons, params_nil]
  repeat (first | ((first | refine zd ?_ | refine zx ?_ | refine zk ?_ | refine zl ?_ | refine zr ?_); refine zq ?_) | refine zs ?_ | refine zg ?_ | refine zb ?_ | refine zo ?_ | refine zt ?_ | refine zf ?_)
  first | refine body_all (.inr rfl) (by simp -implicitDefEqProofs; rfl) (by simp -implicitDefEqProofs; rfl) (by first | (simp; done) | (simp; omega) | omega) ?_ | refine body_all (.inl rfl) (by simp -implicitDefEqProofs; rfl) (by simp -implicitDefEqProofs; rfl) (by first | (simp; done) | (simp; omega) | omega) ?_
  simp
theorem rleft_ok (h : AHeap) (id : Nat) (l : List UInt8) (e : Nat) (hr : Rd h id l e) : ACalls Tryz.prog 85 [.ptr id 0] h fun r h' => r = .int .i64 (l.length : Nat) ∧ h' = h := by
  obtain ⟨t, hr⟩ := hr
  refine acalls_of_awp Tryz.func85 rfl (by simp only [List.length_cons, List.length_nil]; decide) ?_
  simp only [params_cons, params_nil]
  repeat (first | ((first | refine zd ?_ | refine zx ?_ | refine zk ?_ | refine zl ?_ | refine zr ?_); refine zq ?_) | refine zs ?_ | refine zh (by simp -implicitDefEqProofs (disch := (first | omega | (simp; done) | fail)) [if_pos, if_neg, wrap_i64, tmod_pos, tdiv_pos, Int.toNat_add, hr]; rfl) ?_ | refine zb ?_ | refine zo ?_ | refine zt ?_ | refine zf ?_)
  first | refine zY (.inr rfl) ?_ | refine zY (.inl rfl) ?_
  simp
theorem rend_ok (h : AHeap) (id : Nat) (l : List UInt8) (e : Nat) (hr : Rd h id l e) : ACalls Tryz.prog 63 [.ptr id 0] h fun r h' => r = .int .i64 ((if e = 0 ∧ l ≠ [] then 11 else e : Nat) : Nat) ∧ h' = h := by
  obtain ⟨t, hr⟩ := hr
  refine acalls_of_awp Tryz.func63 rfl (by simp only [List.length_cons, List.length_nil]; decide) ?_
  simp only [params_cons, params_nil]
  by_cases h1 : e = 0
  · subst h1
    by_cases h2 : l = []
    · subst h2
      repeat (first | ((first | refine zd ?_ | refine zx ?_ | refine zk ?_ | refine zl ?_ | refine zr ?_); refine zq ?_) | refine zs ?_ | refine zh (by simp -implicitDefEqProofs (disch := (first | omega | (simp; done) | fail)) [if_pos, if_neg, wrap_i64, tmod_pos, tdiv_pos, Int.toNat_add, hr]; rfl) ?_ | refine zb ?_ | refine zo ?_ | refine zt ?_ | refine zf ?_)
      first | refine zY (.inr rfl) ?_ | refine zY (.inl rfl) ?_
      simp
    · have h3 : l.length ≠ 0 := by simpa using h2
      have h4 : 0 < l.length := by omega
      repeat (first | ((first | refine zd ?_ | refine zx ?_ | refine zk ?_ | refine zl ?_ | refine zr ?_); refine zq ?_) | refine zs ?_ | refine zh (by simp -implicitDefEqProofs (disch := (first | omega | (simp; done) | fail)) [if_pos, if_neg, wrap_i64, tmod_pos, tdiv_pos, Int.toNat_add, hr, h4, h2]; rfl) ?_ | refine zb ?_ | refine zo ?_ | refine zt ?_ | refine zf ?_)
      first | refine zY (.inr rfl) ?_ | refine zY (.inl rfl) ?_
      simp [h2]
  · have h3 : ((e : Int) == 0) = false := by simp; omega
    repeat (first | ((first | refine zd ?_ | refine zx ?_ | refine zk ?_ | refine zl ?_ | refine zr ?_); refine zq ?_) | refine zs ?_ | refine zh (by simp -implicitDefEqProofs (disch := (first | omega | (simp; done) | fail)) [if_pos, if_neg, wrap_i64, tmod_pos, tdiv_pos, Int.toNat_add, hr, h3]; rfl) ?_ | refine zb ?_ | refine zo ?_ | refine zt ?_ | refine zf ?_)
    first | refine zY (.inr rfl) ?_ | refine zY (.inl rfl) ?_
    simp [h1]
theorem set_get {h : AHeap} {id : Nat} {o : AObj} (hr : h[id]? = some o) (x : AObj) : (h.set id x)[id]? = some x := by
  have : id < h.length := by
    rcases Nat.lt_or_ge id h.length with h1 | h1
    · exact h1
    · rw [List.getElem?_eq_none h1] at hr; cases hr
  rw [List.getElem?_set_self this]
theorem drop_take_all {α : Type} (x y : List α) (n m : Nat) (hn : x.length = n) (hm : n + y.length = m) : List.drop n (List.take m (x ++ y)) = y := by
  rw [List.take_of_length_le (by simp; omega), List.drop_left' hn]
theorem rnum_read (h : AHeap) (id n : Nat) (l : List UInt8) (hn : n ≤ 281474976710656) (hl : (nb n ++ l).length ≤ 100000000) (hr : Rd h id (nb n ++ l) 0) :
    ACalls Tryz.prog 62 [.ptr id 0] h fun r h' => r = .int .i64 (n : Nat) ∧ ∃ t, h' = h.set id (.cells [.list (l.map b8) t, .int .i64 (0 : Nat)]) := by
  obtain ⟨t, hr⟩ := hr
  have hb := numB_of hn l
  refine acalls_of_awp Tryz.func62 rfl (by simp only [List.length_cons, List.length_nil]; decide) ?_
  simp only [params_cons, params_nil]
  repeat (first | ((first | refine zd ?_ | refine zx ?_ | refine zk ?_ | refine zl ?_ | refine zr ?_); refine zq ?_) | refine zs ?_ | refine zh (by simp -implicitDefEqProofs (disch := (first | omega | (simp; done) | fail)) [if_pos, if_neg, wrap_i64, tmod_pos, tdiv_pos, Int.toNat_add, hr]; rfl) ?_ | refine zb ?_ | refine zo ?_ | refine zt ?_ | refine zf ?_)
  refine zp (callable_of Tryz.func82) _ (number_ok _ _ hl _) ?_
  rintro _ h1 ⟨rfl, rfl⟩
  rw [hb]
  have hg := set_get hr
  have e := drop_take_all (List.map b8 (nb n)) (List.map b8 l) (nb n).length ((nb n).length + l.length) (by simp) (by simp)
  refine goes_eq (by simp -implicitDefEqProofs (disch := (first | omega | (simp; done) | fail)) [if_pos, if_neg, wrap_i64, tmod_pos, tdiv_pos, Int.toNat_add, hr, hg]; rfl) ?_
  repeat (first | ((first | refine zd ?_ | refine zx ?_ | refine zk ?_ | refine zl ?_ | refine zr ?_); refine zq ?_) | refine zs ?_ | refine zh (by simp -implicitDefEqProofs (disch := (first | omega | (simp; done) | fail)) [if_pos, if_neg, wrap_i64, tmod_pos, tdiv_pos, Int.toNat_add, hr, hg]; rfl) ?_ | refine zb ?_ | refine zo ?_ | refine zt ?_ | refine zf ?_)
  first | refine body_all (.inr rfl) (by simp -implicitDefEqProofs; rfl) (by simp -implicitDefEqProofs; rfl) (by first | (simp; done) | (simp; omega) | omega) ?_ | refine body_all (.inl rfl) (by simp -implicitDefEqProofs; rfl) (by simp -implicitDefEqProofs; rfl) (by first | (simp; done) | (simp; omega) | omega) ?_
  rw [e]
  exact ⟨rfl, _, rfl⟩
theorem rnum_fail (h : AHeap) (id : Nat) (l : List UInt8) (he : (numB l).2.2 ≠ 0) (hl : l.length ≤ 100000000) (hr : Rd h id l 0) :
    ACalls Tryz.prog 62 [.ptr id 0] h fun r h' => r = .int .i64 0 ∧ ∃ t, h' = h.set id (.cells [.list (l.map b8) t, .int .i64 ((numB l).2.2 : Nat)]) := by
  obtain ⟨t, hr⟩ := hr
  refine acalls_of_awp Tryz.func62 rfl (by simp only [List.length_cons, List.length_nil]; decide) ?_
  simp only [params_cons, params_nil]
  repeat (first | ((first | refine zd ?_ | refine zx ?_ | refine zk ?_ | refine zl ?_ | refine zr ?_); refine zq ?_) | refine zs ?_ | refine zh (by simp -implicitDefEqProofs (disch := (first | omega | (simp; done) | fail)) [if_pos, if_neg, wrap_i64, tmod_pos, tdiv_pos, Int.toNat_add, hr]; rfl) ?_ | refine zb ?_ | refine zo ?_ | refine zt ?_ | refine zf ?_)
  refine zp (callable_of Tryz.func82) _ (number_ok _ _ hl _) ?_
  rintro _ _ ⟨rfl, rfl⟩
  generalize numB l = x at he
  obtain ⟨n, k, e⟩ := x
  simp only at he
  have he1 : ((e : Int) == 0) = false := by simp; omega
  have he2 : ((e : Int) != 0) = true := by simp; omega
  refine goes_eq (by simp -implicitDefEqProofs (disch := (first | omega | (simp; done) | fail)) [if_pos, if_neg, wrap_i64, tmod_pos, tdiv_pos, Int.toNat_add, hr, he1, he2]; rfl) ?_
  repeat (first | ((first | refine zd ?_ | refine zx ?_ | refine zk ?_ | refine zl ?_ | refine zr ?_); refine zq ?_) | refine zs ?_ | refine zh (by simp -implicitDefEqProofs (disch := (first | omega | (simp; done) | fail)) [if_pos, if_neg, wrap_i64, tmod_pos, tdiv_pos, Int.toNat_add, hr, he1, he2]; rfl) ?_ | refine zb ?_ | refine zo ?_ | refine zt ?_ | refine zf ?_)
  first | refine body_all (.inr rfl) (by simp -implicitDefEqProofs; rfl) (by simp -implicitDefEqProofs; rfl) (by first | (simp; done) | (simp; omega) | omega) ?_ | refine body_all (.inl rfl) (by simp -implicitDefEqProofs; rfl) (by simp -implicitDefEqProofs; rfl) (by first | (simp; done) | (simp; omega) | omega) ?_
  exact ⟨rfl, _, rfl⟩
theorem rtext_read (h : AHeap) (id m : Nat) (s l : List UInt8) (hn : s.length ≤ m) (hm : m ≤ 100000000) (hl : (nb s.length ++ (s ++ l)).length ≤ 100000000) (hr : Rd h id (nb s.length ++ (s ++ l)) 0) :
    ACalls Tryz.prog 140 [.ptr id 0, .int .i64 (m : Nat)] h fun r h' => r = .str s ∧ ∃ t, h' = h.set id (.cells [.list (l.map b8) t, .int .i64 (0 : Nat)]) := by
  have hr0 := hr
  obtain ⟨t, hr⟩ := hr
  refine acalls_of_awp Tryz.func140 rfl (by simp only [List.length_cons, List.length_nil]; decide) ?_
  simp only [params_cons, params_nil]
  repeat (first | ((first | refine zd ?_ | refine zx ?_ | refine zk ?_ | refine zl ?_ | refine zr ?_); refine zq ?_) | refine zs ?_ | refine zh (by simp -implicitDefEqProofs (disch := (first | omega | (simp; done) | fail)) [if_pos, if_neg, wrap_i64, tmod_pos, tdiv_pos, Int.toNat_add, hr]; rfl) ?_ | refine zb ?_ | refine zo ?_ | refine zt ?_ | refine zf ?_)
  refine goes_callS (callable_of Tryz.func62) (by simp -implicitDefEqProofs (disch := (first | omega | (simp; done) | fail)) [if_pos, if_neg, wrap_i64, tmod_pos, tdiv_pos, Int.toNat_add] <;> first | rfl | omega) _ (rnum_read _ _ _ _ (by omega) hl hr0) ?_
  rintro _ _ ⟨rfl, t2, rfl⟩
  have hg := set_get hr
  refine goes_eq (by simp -implicitDefEqProofs (disch := (first | omega | (simp; done) | fail)) [if_pos, if_neg, wrap_i64, tmod_pos, tdiv_pos, Int.toNat_add, hg]; rfl) ?_
  repeat (first | ((first | refine zd ?_ | refine zx ?_ | refine zk ?_ | refine zl ?_ | refine zr ?_); refine zq ?_) | refine zs ?_ | refine zh (by simp -implicitDefEqProofs (disch := (first | omega | (simp; done) | fail)) [if_pos, if_neg, wrap_i64, tmod_pos, tdiv_pos, Int.toNat_add, hg]; rfl) ?_ | refine zb ?_ | refine zo ?_ | refine zt ?_ | refine zf ?_)
  have e := drop_take_all (List.map b8 s) (List.map b8 l) s.length (s.length + l.length) (by simp) (by simp)
  refine awp_cond rfl (fun hq => by exfalso; simp at hq; omega) (fun _ => ?_)
  repeat (first | ((first | refine zd ?_ | refine zx ?_ | refine zk ?_ | refine zl ?_ | refine zr ?_); refine zq ?_) | refine zs ?_ | refine zh (by simp -implicitDefEqProofs (disch := (first | omega | (simp; done) | fail)) [if_pos, if_neg, wrap_i64, tmod_pos, tdiv_pos, Int.toNat_add, hg]; rfl) ?_ | refine zb ?_ | refine zo ?_ | refine zt ?_ | refine zf ?_)
  refine awp_cond rfl (fun hq => by exfalso; simp at hq; omega) (fun _ => ?_)
  repeat (first | ((first | refine zd ?_ | refine zx ?_ | refine zk ?_ | refine zl ?_ | refine zr ?_); refine zq ?_) | refine zs ?_ | refine zh (by simp -implicitDefEqProofs (disch := (first | omega | (simp; done) | fail)) [if_pos, if_neg, wrap_i64, tmod_pos, tdiv_pos, Int.toNat_add, hg]; rfl) ?_ | refine zb ?_ | refine zo ?_ | refine zt ?_ | refine zf ?_)
  first | refine body_all (.inr rfl) (by simp -implicitDefEqProofs; rfl) (by simp -implicitDefEqProofs; rfl) (by first | (simp; done) | (simp; omega) | omega) ?_ | refine body_all (.inl rfl) (by simp -implicitDefEqProofs; rfl) (by simp -implicitDefEqProofs; rfl) (by first | (simp; done) | (simp; omega) | omega) ?_
  rw [e]
  exact ⟨rfl, _, rfl⟩
theorem rtext_fail (h : AHeap) (id m : Nat) (l : List UInt8) (he : (numB l).2.2 ≠ 0) (hl : l.length ≤ 100000000) (hr : Rd h id l 0) :
    ACalls Tryz.prog 140 [.ptr id 0, .int .i64 (m : Nat)] h fun r h' => r = .str [] ∧ ∃ t, h' = h.set id (.cells [.list (l.map b8) t, .int .i64 ((numB l).2.2 : Nat)]) := by
  have hr0 := hr
  obtain ⟨t, hr⟩ := hr
  refine acalls_of_awp Tryz.func140 rfl (by simp only [List.length_cons, List.length_nil]; decide) ?_
  simp only [params_cons, params_nil]
  repeat (first | ((first | refine zd ?_ | refine zx ?_ | refine zk ?_ | refine zl ?_ | refine zr ?_); refine zq ?_) | refine zs ?_ | refine zh (by simp -implicitDefEqProofs (disch := (first | omega | (simp; done) | fail)) [if_pos, if_neg, wrap_i64, tmod_pos, tdiv_pos, Int.toNat_add, hr]; rfl) ?_ | refine zb ?_ | refine zo ?_ | refine zt ?_ | refine zf ?_)
  refine goes_callS (callable_of Tryz.func62) (by simp -implicitDefEqProofs (disch := (first | omega | (simp; done) | fail)) [if_pos, if_neg, wrap_i64, tmod_pos, tdiv_pos, Int.toNat_add] <;> first | rfl | omega) _ (rnum_fail _ _ _ he hl hr0) ?_
  rintro _ _ ⟨rfl, t2, rfl⟩
  have hg := set_get hr
  have he2 : (((numB l).2.2 : Int) != 0) = true := by simp; omega
  refine goes_eq (by simp -implicitDefEqProofs (disch := (first | omega | (simp; done) | fail)) [if_pos, if_neg, wrap_i64, tmod_pos, tdiv_pos, Int.toNat_add, hg, he2]; rfl) ?_
  repeat (first | ((first | refine zd ?_ | refine zx ?_ | refine zk ?_ | refine zl ?_ | refine zr ?_); refine zq ?_) | refine zs ?_ | refine zh (by simp -implicitDefEqProofs (disch := (first | omega | (simp; done) | fail)) [if_pos, if_neg, wrap_i64, tmod_pos, tdiv_pos, Int.toNat_add, hg, he2]; rfl) ?_ | refine zb ?_ | refine zo ?_ | refine zt ?_ | refine zf ?_)
  first | refine body_all (.inr rfl) (by simp -implicitDefEqProofs; rfl) (by simp -implicitDefEqProofs; rfl) (by first | (simp; done) | (simp; omega) | omega) ?_ | refine body_all (.inl rfl) (by simp -implicitDefEqProofs; rfl) (by simp -implicitDefEqProofs; rfl) (by first | (simp; done) | (simp; omega) | omega) ?_
  exact ⟨rfl, _, rfl⟩
theorem rtext_long (h : AHeap) (id m n : Nat) (l : List UInt8) (hn : n ≤ 281474976710656) (hm : m < n) (hl : (nb n ++ l).length ≤ 100000000) (hr : Rd h id (nb n ++ l) 0) :
    ACalls Tryz.prog 140 [.ptr id 0, .int .i64 (m : Nat)] h fun r h' => r = .str [] ∧ ∃ t, h' = h.set id (.cells [.list ((nb n ++ l).map b8) t, .int .i64 (13 : Nat)]) := by
  have hr0 := hr
  obtain ⟨t, hr⟩ := hr
  refine acalls_of_awp Tryz.func140 rfl (by simp only [List.length_cons, List.length_nil]; decide) ?_
  simp only [params_cons, params_nil]
  repeat (first | ((first | refine zd ?_ | refine zx ?_ | refine zk ?_ | refine zl ?_ | refine zr ?_); refine zq ?_) | refine zs ?_ | refine zh (by simp -implicitDefEqProofs (disch := (first | omega | (simp; done) | fail)) [if_pos, if_neg, wrap_i64, tmod_pos, tdiv_pos, Int.toNat_add, hr]; rfl) ?_ | refine zb ?_ | refine zo ?_ | refine zt ?_ | refine zf ?_)
  refine goes_callS (callable_of Tryz.func62) (by simp -implicitDefEqProofs (disch := (first | omega | (simp; done) | fail)) [if_pos, if_neg, wrap_i64, tmod_pos, tdiv_pos, Int.toNat_add] <;> first | rfl | omega) _ (rnum_read _ _ _ _ hn hl hr0) ?_
  rintro _ _ ⟨rfl, t2, rfl⟩
  have hg := set_get hr
  refine goes_eq (by simp -implicitDefEqProofs (disch := (first | omega | (simp; done) | fail)) [if_pos, if_neg, wrap_i64, tmod_pos, tdiv_pos, Int.toNat_add, hg]; rfl) ?_
  repeat (first | ((first | refine zd ?_ | refine zx ?_ | refine zk ?_ | refine zl ?_ | refine zr ?_); refine zq ?_) | refine zs ?_ | refine zh (by simp -implicitDefEqProofs (disch := (first | omega | (simp; done) | fail)) [if_pos, if_neg, wrap_i64, tmod_pos, tdiv_pos, Int.toNat_add, hg]; rfl) ?_ | refine zb ?_ | refine zo ?_ | refine zt ?_ | refine zf ?_)
  refine awp_cond rfl (fun _ => ?_) (fun hq => by exfalso; simp at hq; omega)
  repeat (first | ((first | refine zd ?_ | refine zx ?_ | refine zk ?_ | refine zl ?_ | refine zr ?_); refine zq ?_) | refine zs ?_ | refine zh (by simp -implicitDefEqProofs (disch := (first | omega | (simp; done) | fail)) [if_pos, if_neg, wrap_i64, tmod_pos, tdiv_pos, Int.toNat_add, hg]; rfl) ?_ | refine zb ?_ | refine zo ?_ | refine zt ?_ | refine zf ?_)
  first | refine body_all (.inr rfl) (by simp -implicitDefEqProofs; rfl) (by simp -implicitDefEqProofs; rfl) (by first | (simp; done) | (simp; omega) | omega) ?_ | refine body_all (.inl rfl) (by simp -implicitDefEqProofs; rfl) (by simp -implicitDefEqProofs; rfl) (by first | (simp; done) | (simp; omega) | omega) ?_
  simp only [List.map_append, List.set_set]
  exact ⟨trivial, _, rfl⟩
theorem rtext_short (h : AHeap) (id m n : Nat) (l : List UInt8) (hn : n ≤ 281474976710656) (hm : n ≤ m) (hm2 : l.length < n) (hl : (nb n ++ l).length ≤ 100000000) (hr : Rd h id (nb n ++ l) 0) :
    ACalls Tryz.prog 140 [.ptr id 0, .int .i64 (m : Nat)] h fun r h' => r = .str [] ∧ ∃ t, h' = h.set id (.cells [.list ((nb n ++ l).map b8) t, .int .i64 (10 : Nat)]) := by
  have hr0 := hr
  obtain ⟨t, hr⟩ := hr
  refine acalls_of_awp Tryz.func140 rfl (by simp only [List.length_cons, List.length_nil]; decide) ?_
  simp only [params_cons, params_nil]
  repeat (first | ((first | refine zd ?_ | refine zx ?_ | refine zk ?_ | refine zl ?_ | refine zr ?_); refine zq ?_) | refine zs ?_ | refine zh (by simp -implicitDefEqProofs (disch := (first | omega | (simp; done) | fail)) [if_pos, if_neg, wrap_i64, tmod_pos, tdiv_pos, Int.toNat_add, hr]; rfl) ?_ | refine zb ?_ | refine zo ?_ | refine zt ?_ | refine zf ?_)
  refine goes_callS (callable_of Tryz.func62) (by simp -implicitDefEqProofs (disch := (first | omega | (simp; done) | fail)) [if_pos, if_neg, wrap_i64, tmod_pos, tdiv_pos, Int.toNat_add] <;> first | rfl | omega) _ (rnum_read _ _ _ _ hn hl hr0) ?_
  rintro _ _ ⟨rfl, t2, rfl⟩
  have hg := set_get hr
  refine goes_eq (by simp -implicitDefEqProofs (disch := (first | omega | (simp; done) | fail)) [if_pos, if_neg, wrap_i64, tmod_pos, tdiv_pos, Int.toNat_add, hg]; rfl) ?_
  repeat (first | ((first | refine zd ?_ | refine zx ?_ | refine zk ?_ | refine zl ?_ | refine zr ?_); refine zq ?_) | refine zs ?_ | refine zh (by simp -implicitDefEqProofs (disch := (first | omega | (simp; done) | fail)) [if_pos, if_neg, wrap_i64, tmod_pos, tdiv_pos, Int.toNat_add, hg]; rfl) ?_ | refine zb ?_ | refine zo ?_ | refine zt ?_ | refine zf ?_)
  refine awp_cond rfl (fun hq => by exfalso; simp at hq; omega) (fun _ => ?_)
  repeat (first | ((first | refine zd ?_ | refine zx ?_ | refine zk ?_ | refine zl ?_ | refine zr ?_); refine zq ?_) | refine zs ?_ | refine zh (by simp -implicitDefEqProofs (disch := (first | omega | (simp; done) | fail)) [if_pos, if_neg, wrap_i64, tmod_pos, tdiv_pos, Int.toNat_add, hg]; rfl) ?_ | refine zb ?_ | refine zo ?_ | refine zt ?_ | refine zf ?_)
  refine awp_cond rfl (fun _ => ?_) (fun hq => by exfalso; simp at hq; omega)
  repeat (first | ((first | refine zd ?_ | refine zx ?_ | refine zk ?_ | refine zl ?_ | refine zr ?_); refine zq ?_) | refine zs ?_ | refine zh (by simp -implicitDefEqProofs (disch := (first | omega | (simp; done) | fail)) [if_pos, if_neg, wrap_i64, tmod_pos, tdiv_pos, Int.toNat_add, hg]; rfl) ?_ | refine zb ?_ | refine zo ?_ | refine zt ?_ | refine zf ?_)
  first | refine body_all (.inr rfl) (by simp -implicitDefEqProofs; rfl) (by simp -implicitDefEqProofs; rfl) (by first | (simp; done) | (simp; omega) | omega) ?_ | refine body_all (.inl rfl) (by simp -implicitDefEqProofs; rfl) (by simp -implicitDefEqProofs; rfl) (by first | (simp; done) | (simp; omega) | omega) ?_
  simp only [List.map_append, List.set_set]
  exact ⟨trivial, _, rfl⟩
end Go.Proofs.YtdncoobpdllpkaaGreat.N
