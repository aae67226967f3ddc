/- Frames: the sum, a word, a number as four bytes, in abstract states. -/
import Derived.Test.YtfhldddjjbdlbaaVT
import Derived.Test.YtfhldddjjbdlbaaV18
import Derived.Test.YtfhldddjjbdlbaaSum
set_option linter.unusedVariables false
set_option linter.unusedSimpArgs false
namespace Go.Proofs.Ytfhldddjjbdlbaa.F
open Go Go.Proofs.Ytfhldddjjbdlbaa.V
open Go.Proofs.Ytfhldddjjbdlbaa.Sum (crcB)
def crcN (l : List UInt8) : Nat := (crcB 0#32 l).toNat
theorem crcN_lt (l : List UInt8) : crcN l < 4294967296 := (crcB 0#32 l).isLt
def b8n (n : Nat) : UInt8 := UInt8.ofNat n
theorem b8n_toNat (n : Nat) : (b8n n).toNat = n % 256 := by simp [b8n]
def le4 (n : Nat) : List UInt8 := [b8n n, b8n (n / 256), b8n (n / 65536), b8n (n / 16777216)]
theorem sum_ok (l : List UInt8) (t : Tok) (hl : l.length ≤ 140737488355328) (h : AHeap) : ACalls Try.prog 29 [.list (l.map b8) t] h fun r h' => r = .int .u32 (crcN l : Nat) ∧ h' = h :=
  acalls_pure fun w0 g w vs hv S => by
    obtain ⟨v, rfl, r⟩ := vals_one hv
    obtain ⟨a, c, rfl, hc, hr⟩ := bytes_rd S r hl
    exact ⟨_, .int _ _, Sum.of_any a _ c l rfl w hr⟩
theorem rmore_ok (l : List UInt8) (hl : l.length ≤ 140737488355328) (h : AHeap) : ACalls Try.prog 33 [.int .u32 0, .str l] h fun r h' => r = .int .u32 (crcN l : Nat) ∧ h' = h :=
  acalls_pure fun w0 g w vs hv S => by
    obtain ⟨v, u, rfl, r1, r2⟩ := vals_two hv
    rw [r1.int_eq, r2.str_eq]
    exact ⟨_, .int _ _, (Sum.ref_more 0 0#32 (by decide) ⟨l.toArray⟩ hl w).mono fun e w' ⟨h1, h2⟩ => ⟨by rw [h1]; rfl, by rw [← h2]; exact RowKit.Below.refl _ _⟩⟩
theorem of_ok (n : Nat) (h1 : n < 4294967296) (h : AHeap) :
    ACalls Try.prog 28 [.int .u32 (n : Int)] h fun r h' => r = .agg ((le4 n).map b8) ∧ h' = h := by
  refine acalls_of_awp Try.func28 rfl (by simp only [List.length_cons, List.length_nil]; decide) ?_
  simp only [params_cons, params_nil]
  repeat (first | (refine goes_done ?_; (try simp only [then_normal, then_exit, then_ret, block_normal, block_ret, block_exit, scope_normal, scope_ret, scope_exit, if_true, reduceIte, Nat.reduceEqDiff, reduceCtorEq])) | refine awp_seq ?_ | refine awp_region' (run_start (goes_eq (by simp (disch := (first | omega | (simp; done) | fail)) [if_pos, if_neg, wrap_i64, tmod_pos, tdiv_pos, Int.toNat_add]; rfl) ?_)) | refine awp_block ?_ | refine awp_scope ?_ | (refine awp_exit ?_; (try simp only [then_normal, then_exit, then_ret, block_normal, block_ret, block_exit, scope_normal, scope_ret, scope_exit, if_true, reduceIte, Nat.reduceEqDiff, reduceCtorEq])) | (refine awp_skip ?_; (try simp only [then_normal, then_exit, then_ret, block_normal, block_ret, block_exit, scope_normal, scope_ret, scope_exit, if_true, reduceIte, Nat.reduceEqDiff, reduceCtorEq])) | (refine awp_label ?_; (try simp only [then_normal, then_exit, then_ret, block_normal, block_ret, block_exit, scope_normal, scope_ret, scope_exit, if_true, reduceIte, Nat.reduceEqDiff, reduceCtorEq])) | (refine awp_ret ?_; (try simp only [then_normal, then_exit, then_ret, block_normal, block_ret, block_exit, scope_normal, scope_ret, scope_exit, if_true, reduceIte, Nat.reduceEqDiff, reduceCtorEq])) | refine awp_cond_t rfl ?_ | refine awp_cond_f rfl ?_)
  refine body_pure (.inr rfl) (by simp; rfl) (by simp; rfl) (by simp) ?_
  simp [le4, b8, b8n_toNat]
theorem or_add (a b : Nat) (i : Nat) (h : a < 2 ^ i) : a ||| b * 2 ^ i = a + b * 2 ^ i := by
  have := Nat.two_pow_add_eq_or_of_lt h b
  rw [Nat.or_comm, Nat.mul_comm b, ← this]; omega
theorem or_int (a b : Nat) (i : Nat) (h : a < 2 ^ i) (hb : a + b * 2 ^ i < 4294967296) : bits .or .u32 (a : Int) ((b * 2 ^ i : Nat) : Int) = ((a + b * 2 ^ i : Nat) : Int) := by
  have ha : a < 4294967296 := by omega
  have hb' : b * 2 ^ i < 4294967296 := by omega
  rw [u32_or_nat _ _ ha hb', or_add a b i h]
theorem value_eq (a b c d : Nat) (ha : a < 256) (hb : b < 256) (hc : c < 256) (hd : d < 256) :
    bits .or .u32 (bits .or .u32 (bits .or .u32 (a : Int) ((b : Int) * 256)) ((c : Int) * 65536)) ((d : Int) * 16777216) = ((a + 256 * b + 65536 * c + 16777216 * d : Nat) : Int) := by
  have e1 := or_int a b 8 (by omega) (by omega)
  have e2 := or_int (a + b * 2 ^ 8) c 16 (by omega) (by omega)
  have e3 := or_int (a + b * 2 ^ 8 + c * 2 ^ 16) d 24 (by omega) (by omega)
  have f1 : ((b : Int) * 256) = ((b * 2 ^ 8 : Nat) : Int) := by omega
  have f2 : ((c : Int) * 65536) = ((c * 2 ^ 16 : Nat) : Int) := by omega
  have f3 : ((d : Int) * 16777216) = ((d * 2 ^ 24 : Nat) : Int) := by omega
  rw [f1, f2, f3, e1, e2, e3]
  omega
def num (l : List UInt8) : Nat := (l.getD 0 0).toNat + 256 * (l.getD 1 0).toNat + 65536 * (l.getD 2 0).toNat + 16777216 * (l.getD 3 0).toNat
theorem num_lt (l : List UInt8) : num l < 4294967296 := by
  have h0 := (l.getD 0 0).toNat_lt
  have h1 := (l.getD 1 0).toNat_lt
  have h2 := (l.getD 2 0).toNat_lt
  have h3 := (l.getD 3 0).toNat_lt
  unfold num; omega
theorem value_ok (a b c d : UInt8) (h : AHeap) :
    ACalls Try.prog 40 [.agg [b8 a, b8 b, b8 c, b8 d]] h fun r h' => r = .int .u32 (num [a, b, c, d] : Nat) ∧ h' = h := by
  have ha := a.toNat_lt
  have hb := b.toNat_lt
  have hc := c.toNat_lt
  have hd := d.toNat_lt
  have m1 : ∀ x : UInt8, (x.toNat : Int) % 4294967296 = x.toNat := fun x => by have := x.toNat_lt; omega
  have m2 : (b.toNat : Int) * 256 % 4294967296 = b.toNat * 256 := by omega
  have m3 : (c.toNat : Int) * 65536 % 4294967296 = c.toNat * 65536 := by omega
  have m4 : (d.toNat : Int) * 16777216 % 4294967296 = d.toNat * 16777216 := by omega
  have e := value_eq a.toNat b.toNat c.toNat d.toNat ha hb hc hd
  refine acalls_of_awp Try.func40 rfl (by simp only [List.length_cons, List.length_nil]; decide) ?_
  simp only [params_cons, params_nil]
  simp only [b8]
  repeat (first | (refine goes_done ?_; (try simp only [then_normal, then_exit, then_ret, block_normal, block_ret, block_exit, scope_normal, scope_ret, scope_exit, if_true, reduceIte, Nat.reduceEqDiff, reduceCtorEq])) | refine awp_seq ?_ | refine awp_region' (run_start (goes_eq (by simp (disch := (first | omega | (simp; done) | fail)) [if_pos, if_neg, wrap_i64, tmod_pos, tdiv_pos, Int.toNat_add]; rfl) ?_)) | refine awp_block ?_ | refine awp_scope ?_ | (refine awp_exit ?_; (try simp only [then_normal, then_exit, then_ret, block_normal, block_ret, block_exit, scope_normal, scope_ret, scope_exit, if_true, reduceIte, Nat.reduceEqDiff, reduceCtorEq])) | (refine awp_skip ?_; (try simp only [then_normal, then_exit, then_ret, block_normal, block_ret, block_exit, scope_normal, scope_ret, scope_exit, if_true, reduceIte, Nat.reduceEqDiff, reduceCtorEq])) | (refine awp_label ?_; (try simp only [then_normal, then_exit, then_ret, block_normal, block_ret, block_exit, scope_normal, scope_ret, scope_exit, if_true, reduceIte, Nat.reduceEqDiff, reduceCtorEq])) | (refine awp_ret ?_; (try simp only [then_normal, then_exit, then_ret, block_normal, block_ret, block_exit, scope_normal, scope_ret, scope_exit, if_true, reduceIte, Nat.reduceEqDiff, reduceCtorEq])) | refine awp_cond_t rfl ?_ | refine awp_cond_f rfl ?_)
  refine body_pure (.inr rfl) (by simp; rfl) (by simp; rfl) (by simp) ?_
  simp only [m1, m2, m3, m4, e]
  simp [num]
theorem number_ok (l : List UInt8) (hl : 4 ≤ l.length) (h : AHeap) : ACalls Try.prog 37 [.str l] h fun r h' => r = .int .i64 (num l : Nat) ∧ h' = h := by
  obtain ⟨a, b, c, d, r, rfl⟩ : ∃ a b c d r, l = a :: b :: c :: d :: r := by
    match l, hl with
    | a :: b :: c :: d :: r, _ => exact ⟨a, b, c, d, r, rfl⟩
  have ha := a.toNat_lt
  have hb := b.toNat_lt
  have hc := c.toNat_lt
  have hd := d.toNat_lt
  refine acalls_of_awp Try.func37 rfl (by simp only [List.length_cons, List.length_nil]; decide) ?_
  simp only [params_cons, params_nil]
  repeat (first | (refine goes_done ?_; (try simp only [then_normal, then_exit, then_ret, block_normal, block_ret, block_exit, scope_normal, scope_ret, scope_exit, if_true, reduceIte, Nat.reduceEqDiff, reduceCtorEq])) | refine awp_seq ?_ | refine awp_region' (run_start (goes_eq (by simp (disch := (first | omega | (simp; done) | fail)) [if_pos, if_neg, wrap_i64, tmod_pos, tdiv_pos, Int.toNat_add]; rfl) ?_)) | refine awp_block ?_ | refine awp_scope ?_ | (refine awp_exit ?_; (try simp only [then_normal, then_exit, then_ret, block_normal, block_ret, block_exit, scope_normal, scope_ret, scope_exit, if_true, reduceIte, Nat.reduceEqDiff, reduceCtorEq])) | (refine awp_skip ?_; (try simp only [then_normal, then_exit, then_ret, block_normal, block_ret, block_exit, scope_normal, scope_ret, scope_exit, if_true, reduceIte, Nat.reduceEqDiff, reduceCtorEq])) | (refine awp_label ?_; (try simp only [then_normal, then_exit, then_ret, block_normal, block_ret, block_exit, scope_normal, scope_ret, scope_exit, if_true, reduceIte, Nat.reduceEqDiff, reduceCtorEq])) | (refine awp_ret ?_; (try simp only [then_normal, then_exit, then_ret, block_normal, block_ret, block_exit, scope_normal, scope_ret, scope_exit, if_true, reduceIte, Nat.reduceEqDiff, reduceCtorEq])) | refine awp_cond_t rfl ?_ | refine awp_cond_f rfl ?_)
  refine awp_draw (.q 0 (.q 1 (.q 2 (.q 3 (.q 4 (.q 5 (.q 6 (.q 7 (.q 8 (.q 9 (.q 10 (.q 11 (.q 12 (.q 13 (.q 14 (.q 15 (.q 16 (.q 17 (.q 18 (.done)))))))))))))))))))) (by kernel_rfl) (by kernel_rfl) (tree_start (goesT_eq (by simp (disch := (first | omega | (simp; done) | fail)) [if_pos, if_neg, wrap_i64, tmod_pos, tdiv_pos, Int.toNat_add, wrap_i64]; rfl) ?_))
  refine goesT_done ?_
  (try simp only [then_normal, then_exit, then_ret, block_normal, block_ret, block_exit, scope_normal, scope_ret, scope_exit, if_true, reduceIte, Nat.reduceEqDiff, reduceCtorEq])
  repeat (first | (refine goes_done ?_; (try simp only [then_normal, then_exit, then_ret, block_normal, block_ret, block_exit, scope_normal, scope_ret, scope_exit, if_true, reduceIte, Nat.reduceEqDiff, reduceCtorEq])) | refine awp_seq ?_ | refine awp_region' (run_start (goes_eq (by simp (disch := (first | omega | (simp; done) | fail)) [if_pos, if_neg, wrap_i64, tmod_pos, tdiv_pos, Int.toNat_add]; rfl) ?_)) | refine awp_block ?_ | refine awp_scope ?_ | (refine awp_exit ?_; (try simp only [then_normal, then_exit, then_ret, block_normal, block_ret, block_exit, scope_normal, scope_ret, scope_exit, if_true, reduceIte, Nat.reduceEqDiff, reduceCtorEq])) | (refine awp_skip ?_; (try simp only [then_normal, then_exit, then_ret, block_normal, block_ret, block_exit, scope_normal, scope_ret, scope_exit, if_true, reduceIte, Nat.reduceEqDiff, reduceCtorEq])) | (refine awp_label ?_; (try simp only [then_normal, then_exit, then_ret, block_normal, block_ret, block_exit, scope_normal, scope_ret, scope_exit, if_true, reduceIte, Nat.reduceEqDiff, reduceCtorEq])) | (refine awp_ret ?_; (try simp only [then_normal, then_exit, then_ret, block_normal, block_ret, block_exit, scope_normal, scope_ret, scope_exit, if_true, reduceIte, Nat.reduceEqDiff, reduceCtorEq])) | refine awp_cond_t rfl ?_ | refine awp_cond_f rfl ?_)
  first | refine body_pure0 (.inr rfl) (by simp; rfl) (by simp; rfl) (by simp) ?_ | refine body_pure0 (.inl rfl) (by simp; rfl) (by simp; rfl) (by simp) ?_
  simp [num]
end Go.Proofs.Ytfhldddjjbdlbaa.F
