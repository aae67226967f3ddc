import Derived.Test.YtdoaglcnncapdaaVT
import Derived.Test.YtdoaglcnncapdaaV18
import Derived.Test.YtdoaglcnncapdaaSum
import Derived.Test.YtdoaglcnncapdaaV19
/- Frames: the sum, a word, a number as four bytes, in abstract states. -/
set_option linter.unusedVariables false
set_option linter.unusedSimpArgs false
namespace Go.Proofs.Ytdoaglcnncapdaa.F
open Go Go.Proofs.Ytdoaglcnncapdaa.V
open Go.Proofs.Ytdoaglcnncapdaa.Sum (crcB)
def crcN (l : List UInt8) : Nat := (crcB 0#32 l).toNat
theorem crcN_lt (l : List UInt8) : crcN l < 4294967296 := (crcB 0#32 l).isLt
def b8n (n : Nat) : UInt8 := UInt8.ofNat n
theorem b8n_toNat (n : Nat) : (b8n n).toNat = n % 256 := by simp [b8n]
def le4 (n : Nat) : List UInt8 := [b8n n, b8n (n / 256), b8n (n / 65536), b8n (n / 16777216)]
theorem sum_ok (l : List UInt8) (t : Tok) (hl : l.length ≤ 140737488355328) (h : AHeap) : ACalls Try.prog 68 [.list (l.map b8) t] h fun r h' => r = .int .u32 (crcN l : Nat) ∧ h' = h :=
  acalls_pure fun w0 g w vs hv S => by
    obtain ⟨v, rfl, r⟩ := vals_one hv
    obtain ⟨a, c, rfl, hc, hr⟩ := bytes_rd S r hl
    exact ⟨_, .int _ _, Sum.of_any a _ c l rfl w hr⟩
theorem rmore_ok (l : List UInt8) (hl : l.length ≤ 140737488355328) (h : AHeap) : ACalls Try.prog 51 [.int .u32 0, .str l] h fun r h' => r = .int .u32 (crcN l : Nat) ∧ h' = h :=
  acalls_pure fun w0 g w vs hv S => by
    obtain ⟨v, u, rfl, r1, r2⟩ := vals_two hv
    rw [r1.int_eq, r2.str_eq]
    exact ⟨_, .int _ _, (Sum.ref_more 0 0#32 (by decide) ⟨l.toArray⟩ hl w).mono fun e w' ⟨h1, h2⟩ => ⟨by rw [h1]; rfl, by rw [← h2]; exact RowKit.Below.refl _ _⟩⟩
theorem of_ok (n : Nat) (h1 : n < 4294967296) (h : AHeap) :
    ACalls Try.prog 67 [.int .u32 (n : Int)] h fun r h' => r = .agg ((le4 n).map b8) ∧ h' = h := by
  refine acalls_of_awp Try.func67 rfl (by simp only [List.length_cons, List.length_nil]; decide) ?_
  simp only [params_cons, params_nil]
  repeat (first | ((first | refine zd ?_ | refine zx ?_ | refine zk ?_ | refine zl ?_ | refine zr ?_); refine zq ?_) | refine zs ?_ | refine zg ?_ | refine zb ?_ | refine zo ?_ | refine zt ?_ | refine zf ?_)
  refine body_pure (.inr rfl) (by simp; rfl) (by simp; rfl) (by simp) ?_
  simp [le4, b8, b8n_toNat]
theorem or_add (a b : Nat) (i : Nat) (h : a < 2 ^ i) : a ||| b * 2 ^ i = a + b * 2 ^ i := by
  have := Nat.two_pow_add_eq_or_of_lt h b
  rw [Nat.or_comm, Nat.mul_comm b, ← this]; omega
theorem or_int (a b : Nat) (i : Nat) (h : a < 2 ^ i) (hb : a + b * 2 ^ i < 4294967296) : bits .or .u32 (a : Int) ((b * 2 ^ i : Nat) : Int) = ((a + b * 2 ^ i : Nat) : Int) := by
  have ha : a < 4294967296 := by omega
  have hb' : b * 2 ^ i < 4294967296 := by omega
  rw [u32_or_nat _ _ ha hb', or_add a b i h]
theorem value_eq (a b c d : Nat) (ha : a < 256) (hb : b < 256) (hc : c < 256) (hd : d < 256) :
    bits .or .u32 (bits .or .u32 (bits .or .u32 (a : Int) ((b : Int) * 256)) ((c : Int) * 65536)) ((d : Int) * 16777216) = ((a + 256 * b + 65536 * c + 16777216 * d : Nat) : Int) := by
  have e1 := or_int a b 8 (by omega) (by omega)
  have e2 := or_int (a + b * 2 ^ 8) c 16 (by omega) (by omega)
  have e3 := or_int (a + b * 2 ^ 8 + c * 2 ^ 16) d 24 (by omega) (by omega)
  have f1 : ((b : Int) * 256) = ((b * 2 ^ 8 : Nat) : Int) := by omega
  have f2 : ((c : Int) * 65536) = ((c * 2 ^ 16 : Nat) : Int) := by omega
  have f3 : ((d : Int) * 16777216) = ((d * 2 ^ 24 : Nat) : Int) := by omega
  rw [f1, f2, f3, e1, e2, e3]
  omega
def num (l : List UInt8) : Nat := (l.getD 0 0).toNat + 256 * (l.getD 1 0).toNat + 65536 * (l.getD 2 0).toNat + 16777216 * (l.getD 3 0).toNat
theorem num_lt (l : List UInt8) : num l < 4294967296 := by
  have h0 := (l.getD 0 0).toNat_lt
  have h1 := (l.getD 1 0).toNat_lt
  have h2 := (l.getD 2 0).toNat_lt
  have h3 := (l.getD 3 0).toNat_lt
  unfold num; omega
theorem value_ok (a b c d : UInt8) (h : AHeap) :
    ACalls Try.prog 69 [.agg [b8 a, b8 b, b8 c, b8 d]] h fun r h' => r = .int .u32 (num [a, b, c, d] : Nat) ∧ h' = h := by
  have ha := a.toNat_lt
  have hb := b.toNat_lt
  have hc := c.toNat_lt
  have hd := d.toNat_lt
  have m1 : ∀ x : UInt8, (x.toNat : Int) % 4294967296 = x.toNat := fun x => by have := x.toNat_lt; omega
  have m2 : (b.toNat : Int) * 256 % 4294967296 = b.toNat * 256 := by omega
  have m3 : (c.toNat : Int) * 65536 % 4294967296 = c.toNat * 65536 := by omega
  have m4 : (d.toNat : Int) * 16777216 % 4294967296 = d.toNat * 16777216 := by omega
  have e := value_eq a.toNat b.toNat c.toNat d.toNat ha hb hc hd
  refine acalls_of_awp Try.func69 rfl (by simp only [List.length_cons, List.length_nil]; decide) ?_
  simp only [params_cons, params_nil]
  simp only [b8]
  repeat (first | ((first | refine zd ?_ | refine zx ?_ | refine zk ?_ | refine zl ?_ | refine zr ?_); refine zq ?_) | refine zs ?_ | refine zg ?_ | refine zb ?_ | refine zo ?_ | refine zt ?_ | refine zf ?_)
  refine body_pure (.inr rfl) (by simp; rfl) (by simp; rfl) (by simp) ?_
  simp only [m1, m2, m3, m4, e]
  simp [num]
end Go.Proofs.Ytdoaglcnncapdaa.F

/- Frames: the reference's and the program's Put and Take, in abstract states. -/
set_option linter.unusedVariables false
set_option linter.unusedSimpArgs false
set_option maxRecDepth 20000
namespace Go.Proofs.Ytdoaglcnncapdaa.F
open Go Go.Proofs.Ytdoaglcnncapdaa.V
attribute [-simp] List.map_take List.map_drop
attribute [local simp] take_map drop_map List.take_take
def fr (l : List UInt8) : List UInt8 := le4 l.length ++ (le4 (crcN l) ++ l)
def takeB (l : List UInt8) : List UInt8 × Nat × Int :=
  if l.length < 8 then ([], 0, 10) else if 16777215 < num l then ([], 0, 13) else if l.length < 8 + num l then ([], 0, 10)
  else if num (l.drop 4) = crcN ((l.drop 8).take (num l)) then ((l.drop 8).take (num l), 8 + num l, 0) else ([], 0, 12)
theorem num_take (l : List UInt8) (k : Nat) (h : 4 ≤ k) : num (l.take k) = num l := by
  unfold num
  simp only [List.getD_eq_getElem?_getD, List.getElem?_take]
  rw [if_pos (by omega), if_pos (by omega), if_pos (by omega), if_pos (by omega)]
theorem four_ok (n : Nat) (h1 : n < 4294967296) (h : AHeap) : ACalls Try.prog 50 [.int .i64 (n : Int)] h fun r h' => r = .str (le4 n) ∧ h' = h := by
  have e : bytesOf [.int .u8 ((n : Int) % 256), .int .u8 ((n : Int) / 256 % 256), .int .u8 ((n : Int) / 65536 % 256), .int .u8 ((n : Int) / 16777216 % 256)] = some (le4 n) := by
    have := bytesOf_map (le4 n)
    simpa [le4, b8, b8n_toNat] using this
  refine acalls_of_awp Try.func50 rfl (by simp only [List.length_cons, List.length_nil]; decide) ?_
  simp only [params_cons, params_nil]
  repeat (first | ((first | refine zd ?_ | refine zx ?_ | refine zk ?_ | refine zl ?_ | refine zr ?_); refine zq ?_) | refine zs ?_ | refine zh (by simp -implicitDefEqProofs (disch := (first | omega | (simp; done) | fail)) [if_pos, if_neg, wrap_i64, tmod_pos, tdiv_pos, Int.toNat_add, e]; rfl) ?_ | refine zb ?_ | refine zo ?_ | refine zt ?_ | refine zf ?_)
  first | refine zY (.inr rfl) ?_ | refine zY (.inl rfl) ?_
  simp
@[simp] theorem le4_length (n : Nat) : (le4 n).length = 4 := rfl
theorem rput_ok (l : List UInt8) (hl : l.length ≤ 16777215) (h : AHeap) : ACalls Try.prog 24 [.str l] h fun r h' => r = .str (fr l) ∧ h' = h := by
  have hc := crcN_lt l
  refine acalls_of_awp Try.func24 rfl (by simp only [List.length_cons, List.length_nil]; decide) ?_
  simp only [params_cons, params_nil]
  repeat (first | ((first | refine zd ?_ | refine zx ?_ | refine zk ?_ | refine zl ?_ | refine zr ?_); refine zq ?_) | refine zs ?_ | refine zg ?_ | refine zb ?_ | refine zo ?_ | refine zt ?_ | refine zf ?_)
  refine awp_cond rfl (fun hq => by exfalso; simp at hq; omega) (fun _ => ?_)
  repeat (first | ((first | refine zd ?_ | refine zx ?_ | refine zk ?_ | refine zl ?_ | refine zr ?_); refine zq ?_) | refine zs ?_ | refine zg ?_ | refine zb ?_ | refine zo ?_ | refine zt ?_ | refine zf ?_)
  refine zp (callable_of Try.func50) _ (four_ok l.length (by omega) _) ?_
  rintro _ h ⟨rfl, rfl⟩
  refine ze ?_
  refine zp (callable_of Try.func51) _ (rmore_ok l (by omega) _) ?_
  rintro _ h ⟨rfl, rfl⟩
  refine ze ?_
  refine zp (callable_of Try.func50) _ (four_ok (crcN l) hc _) ?_
  rintro _ h ⟨rfl, rfl⟩
  refine goes_eq (by simp -implicitDefEqProofs (disch := (first | omega | (simp; done) | fail)) [if_pos, if_neg, wrap_i64, tmod_pos, tdiv_pos, Int.toNat_add, le4_length]; rfl) ?_
  repeat (first | ((first | refine zd ?_ | refine zx ?_ | refine zk ?_ | refine zl ?_ | refine zr ?_); refine zq ?_) | refine zs ?_ | refine zg ?_ | refine zb ?_ | refine zo ?_ | refine zt ?_ | refine zf ?_)
  first | refine zY (.inr rfl) ?_ | refine zY (.inl rfl) ?_
  simp [fr]
theorem put_ok (l : List UInt8) (t : Tok) (hl : l.length ≤ 16777215) (h : AHeap) : ACalls Try.prog 48 [.list (l.map b8) t] h fun r h' => r = .tuple [.list ((fr l).map b8) .no, .int .i64 0] ∧ h' = h := by
  have hc := crcN_lt l
  refine acalls_of_awp Try.func48 rfl (by simp only [List.length_cons, List.length_nil]; decide) ?_
  simp only [params_cons, params_nil]
  repeat (first | ((first | refine zd ?_ | refine zx ?_ | refine zk ?_ | refine zl ?_ | refine zr ?_); refine zq ?_) | refine zs ?_ | refine zg ?_ | refine zb ?_ | refine zo ?_ | refine zt ?_ | refine zf ?_)
  refine awp_cond rfl (fun hq => by exfalso; simp at hq; omega) (fun _ => ?_)
  repeat (first | ((first | refine zd ?_ | refine zx ?_ | refine zk ?_ | refine zl ?_ | refine zr ?_); refine zq ?_) | refine zs ?_ | refine zg ?_ | refine zb ?_ | refine zo ?_ | refine zt ?_ | refine zf ?_)
  refine zp (callable_of Try.func67) _ (of_ok l.length (by omega) _) ?_
  rintro _ h ⟨rfl, rfl⟩
  refine ze ?_
  refine zp (callable_of Try.func68) _ (sum_ok l .no (by omega) _) ?_
  rintro _ h ⟨rfl, rfl⟩
  refine ze ?_
  refine zp (callable_of Try.func67) _ (of_ok (crcN l) hc _) ?_
  rintro _ h ⟨rfl, rfl⟩
  refine ze ?_
  repeat (first | ((first | refine zd ?_ | refine zx ?_ | refine zk ?_ | refine zl ?_ | refine zr ?_); refine zq ?_) | refine zs ?_ | refine zg ?_ | refine zb ?_ | refine zo ?_ | refine zt ?_ | refine zf ?_)
  refine awp_freeze h.length (by simp; rfl) ?_
  refine awp_freeze (h.length + 1) (by simp; rfl) ?_
  simp
  refine awp_draw (.q 0 (.q 1 (.q 2 (.q 4 (.q 6 (.q 8 (.a 3 (.a 5 (.a 7 (.a 9 (.q 10 (.q 11 (.done))))))))))))) (by kernel_rfl) (by kernel_rfl) (tree_start (goesT_eq (by simp -implicitDefEqProofs (disch := (first | omega | (simp; done) | fail)) [if_pos, if_neg, wrap_i64, tmod_pos, tdiv_pos, Int.toNat_add]; rfl) ?_))
  refine goesT_done ?_
  (try simp only [vq, if_true, reduceIte, Nat.reduceEqDiff, reduceCtorEq])
  repeat (first | ((first | refine zd ?_ | refine zx ?_ | refine zk ?_ | refine zl ?_ | refine zr ?_); refine zq ?_) | refine zs ?_ | refine zg ?_ | refine zb ?_ | refine zo ?_ | refine zt ?_ | refine zf ?_)
  first | refine zy (.inr rfl) ?_ | refine zy (.inl rfl) ?_
  simp [fr]
theorem put_long (l : List UInt8) (t : Tok) (hl : 16777215 < l.length) (h : AHeap) : ACalls Try.prog 48 [.list (l.map b8) t] h fun r h' => r = .tuple [.list [] .no, .int .i64 13] ∧ h' = h := by
  refine acalls_of_awp Try.func48 rfl (by simp only [List.length_cons, List.length_nil]; decide) ?_
  simp only [params_cons, params_nil]
  repeat (first | ((first | refine zd ?_ | refine zx ?_ | refine zk ?_ | refine zl ?_ | refine zr ?_); refine zq ?_) | refine zs ?_ | refine zg ?_ | refine zb ?_ | refine zo ?_ | refine zt ?_ | refine zf ?_)
  refine awp_cond rfl (fun _ => ?_) (fun hq => by exfalso; simp at hq; omega)
  repeat (first | ((first | refine zd ?_ | refine zx ?_ | refine zk ?_ | refine zl ?_ | refine zr ?_); refine zq ?_) | refine zs ?_ | refine zg ?_ | refine zb ?_ | refine zo ?_ | refine zt ?_ | refine zf ?_)
  first | refine zY (.inr rfl) ?_ | refine zY (.inl rfl) ?_
  simp
theorem rput_long (l : List UInt8) (hl : 16777215 < l.length) (h : AHeap) : ACalls Try.prog 24 [.str l] h fun r h' => r = .str [] ∧ h' = h := by
  refine acalls_of_awp Try.func24 rfl (by simp only [List.length_cons, List.length_nil]; decide) ?_
  simp only [params_cons, params_nil]
  repeat (first | ((first | refine zd ?_ | refine zx ?_ | refine zk ?_ | refine zl ?_ | refine zr ?_); refine zq ?_) | refine zs ?_ | refine zg ?_ | refine zb ?_ | refine zo ?_ | refine zt ?_ | refine zf ?_)
  refine awp_cond rfl (fun _ => ?_) (fun hq => by exfalso; simp at hq; omega)
  repeat (first | ((first | refine zd ?_ | refine zx ?_ | refine zk ?_ | refine zl ?_ | refine zr ?_); refine zq ?_) | refine zs ?_ | refine zg ?_ | refine zb ?_ | refine zo ?_ | refine zt ?_ | refine zf ?_)
  first | refine zY (.inr rfl) ?_ | refine zY (.inl rfl) ?_
  simp
def takeV (f : List UInt8 → AV) (x : List UInt8 × Nat × Int) : AV := .tuple [f x.1, .int .i64 (x.2.1 : Nat), .int .i64 x.2.2]
def byV (l : List UInt8) : AV := .list (l.map b8) .no
theorem takeB_1 {l : List UInt8} (h : l.length < 8) : takeB l = ([], 0, 10) := if_pos h
theorem takeB_2 {l : List UInt8} (h : 8 ≤ l.length) (h2 : 16777215 < num l) : takeB l = ([], 0, 13) := by rw [takeB, if_neg (by omega), if_pos h2]
theorem takeB_3 {l : List UInt8} (h : 8 ≤ l.length) (h2 : num l ≤ 16777215) (h3 : l.length < 8 + num l) : takeB l = ([], 0, 10) := by rw [takeB, if_neg (by omega), if_neg (by omega), if_pos h3]
theorem takeB_4 {l : List UInt8} (h : 8 ≤ l.length) (h2 : num l ≤ 16777215) (h3 : 8 + num l ≤ l.length) (h4 : num (l.drop 4) = crcN ((l.drop 8).take (num l))) : takeB l = ((l.drop 8).take (num l), 8 + num l, 0) := by
  rw [takeB, if_neg (by omega), if_neg (by omega), if_neg (by omega), if_pos h4]
theorem takeB_5 {l : List UInt8} (h : 8 ≤ l.length) (h2 : num l ≤ 16777215) (h3 : 8 + num l ≤ l.length) (h4 : num (l.drop 4) ≠ crcN ((l.drop 8).take (num l))) : takeB l = ([], 0, 12) := by
  rw [takeB, if_neg (by omega), if_neg (by omega), if_neg (by omega), if_neg h4]
theorem drop_take8 (l : List UInt8) (k : Nat) : (l.take (8 + k)).drop 8 = (l.drop 8).take k := by rw [List.drop_take]; congr 1; omega
theorem drop_take4 (l : List UInt8) : (l.take 8).drop 4 = (l.drop 4).take 4 := by rw [List.drop_take]
theorem drop_takeN (l : List UInt8) (a b k : Nat) (h : b = a + k) : (l.take b).drop a = (l.drop a).take k := by rw [List.drop_take]; congr 1; omega
theorem value_okL (q : List UInt8) (hq : q.length = 4) (h : AHeap) : ACalls Try.prog 69 [.agg (q.map b8)] h fun r h' => r = .int .u32 (num q : Nat) ∧ h' = h := by
  match q, hq with
  | [a, b, c, d], _ => exact value_ok a b c d h
theorem take_ok (l : List UInt8) (t : Tok) (hl : l.length ≤ 140737488355328) (h : AHeap) : ACalls Try.prog 49 [.list (l.map b8) t] h fun r h' => r = takeV byV (takeB l) ∧ h' = h := by
  have hn := num_lt l
  have hn4 := num_lt (l.drop 4)
  have hc := crcN_lt ((l.drop 8).take (num l))
  have hnt := num_take l 4 (by omega)
  have hnt4 := num_take (l.drop 4) 4 (by omega)
  refine acalls_of_awp Try.func49 rfl (by simp only [List.length_cons, List.length_nil]; decide) ?_
  simp only [params_cons, params_nil]
  repeat (first | ((first | refine zd ?_ | refine zx ?_ | refine zk ?_ | refine zl ?_ | refine zr ?_); refine zq ?_) | refine zs ?_ | refine zg ?_ | refine zb ?_ | refine zo ?_ | refine zt ?_ | refine zf ?_)
  refine awp_cond rfl (fun h0 => ?_) (fun h0 => ?_)
  · repeat (first | ((first | refine zd ?_ | refine zx ?_ | refine zk ?_ | refine zl ?_ | refine zr ?_); refine zq ?_) | refine zs ?_ | refine zg ?_ | refine zb ?_ | refine zo ?_ | refine zt ?_ | refine zf ?_)
    first | refine zY (.inr rfl) ?_ | refine zY (.inl rfl) ?_
    simp at h0
    simp [takeV, byV, takeB_1 (l := l) (by omega)]
  simp at h0
  repeat (first | ((first | refine zd ?_ | refine zx ?_ | refine zk ?_ | refine zl ?_ | refine zr ?_); refine zq ?_) | refine zs ?_ | refine zg ?_ | refine zb ?_ | refine zo ?_ | refine zt ?_ | refine zf ?_)
  refine goes_callS (callable_of Try.func69) (by simp -implicitDefEqProofs (disch := (first | omega | (simp; done) | fail)) [if_pos, if_neg, wrap_i64, tmod_pos, tdiv_pos, Int.toNat_add] <;> first | rfl | omega) _ (value_okL (l.take 4) (by simp; omega) _) ?_
  rintro _ h ⟨rfl, rfl⟩
  rw [hnt]
  refine ze ?_
  repeat (first | ((first | refine zd ?_ | refine zx ?_ | refine zk ?_ | refine zl ?_ | refine zr ?_); refine zq ?_) | refine zs ?_ | refine zg ?_ | refine zb ?_ | refine zo ?_ | refine zt ?_ | refine zf ?_)
  refine awp_cond rfl (fun h1 => ?_) (fun h1 => ?_)
  · repeat (first | ((first | refine zd ?_ | refine zx ?_ | refine zk ?_ | refine zl ?_ | refine zr ?_); refine zq ?_) | refine zs ?_ | refine zg ?_ | refine zb ?_ | refine zo ?_ | refine zt ?_ | refine zf ?_)
    first | refine zY (.inr rfl) ?_ | refine zY (.inl rfl) ?_
    simp at h1
    simp [takeV, byV, takeB_2 (l := l) (by omega) (by omega)]
  simp at h1
  repeat (first | ((first | refine zd ?_ | refine zx ?_ | refine zk ?_ | refine zl ?_ | refine zr ?_); refine zq ?_) | refine zs ?_ | refine zg ?_ | refine zb ?_ | refine zo ?_ | refine zt ?_ | refine zf ?_)
  refine awp_cond rfl (fun h2 => ?_) (fun h2 => ?_)
  · repeat (first | ((first | refine zd ?_ | refine zx ?_ | refine zk ?_ | refine zl ?_ | refine zr ?_); refine zq ?_) | refine zs ?_ | refine zg ?_ | refine zb ?_ | refine zo ?_ | refine zt ?_ | refine zf ?_)
    first | refine zY (.inr rfl) ?_ | refine zY (.inl rfl) ?_
    simp at h2
    simp [takeV, byV, takeB_3 (l := l) (by omega) (by omega) (by omega)]
  simp at h2
  repeat (first | ((first | refine zd ?_ | refine zx ?_ | refine zk ?_ | refine zl ?_ | refine zr ?_); refine zq ?_) | refine zs ?_ | refine zg ?_ | refine zb ?_ | refine zo ?_ | refine zt ?_ | refine zf ?_)
  refine goes_callS (callable_of Try.func69) (by simp -implicitDefEqProofs (disch := (first | omega | (simp; done) | fail)) [if_pos, if_neg, wrap_i64, tmod_pos, tdiv_pos, Int.toNat_add, drop_take4] <;> first | rfl | omega) _ (value_okL ((l.drop 4).take 4) (by simp; omega) _) ?_
  rintro _ h ⟨rfl, rfl⟩
  rw [hnt4]
  refine ze ?_
  refine goes_callS (callable_of Try.func68) (by simp -implicitDefEqProofs (disch := (first | omega | (simp; done) | fail)) [if_pos, if_neg, wrap_i64, tmod_pos, tdiv_pos, Int.toNat_add, drop_take8] <;> first | rfl | omega) _ (sum_ok ((l.drop 8).take (num l)) .no (by simp; omega) _) ?_
  rintro _ h ⟨rfl, rfl⟩
  refine ze ?_
  repeat (first | ((first | refine zd ?_ | refine zx ?_ | refine zk ?_ | refine zl ?_ | refine zr ?_); refine zq ?_) | refine zs ?_ | refine zg ?_ | refine zb ?_ | refine zo ?_ | refine zt ?_ | refine zf ?_)
  rw [drop_take8]
  refine awp_cond rfl (fun h3 => ?_) (fun h3 => ?_)
  · repeat (first | ((first | refine zd ?_ | refine zx ?_ | refine zk ?_ | refine zl ?_ | refine zr ?_); refine zq ?_) | refine zs ?_ | refine zg ?_ | refine zb ?_ | refine zo ?_ | refine zt ?_ | refine zf ?_)
    first | refine zy (.inr rfl) ?_ | refine zy (.inl rfl) ?_
    simp at h3
    simp [takeV, byV, takeB_5 (l := l) (by omega) (by omega) (by omega) (by omega)]
  simp at h3
  repeat (first | ((first | refine zd ?_ | refine zx ?_ | refine zk ?_ | refine zl ?_ | refine zr ?_); refine zq ?_) | refine zs ?_ | refine zg ?_ | refine zb ?_ | refine zo ?_ | refine zt ?_ | refine zf ?_)
  first | refine zy (.inr rfl) ?_ | refine zy (.inl rfl) ?_
  simp [takeV, byV, takeB_4 (l := l) (by omega) (by omega) (by omega) (by omega)]
end Go.Proofs.Ytdoaglcnncapdaa.F

/- Frames: all bodies. -/
set_option linter.unusedVariables false
set_option linter.unusedSimpArgs false
set_option maxRecDepth 20000
namespace Go.Proofs.Ytdoaglcnncapdaa.F
open Go Go.Proofs.Ytdoaglcnncapdaa.V
attribute [-simp] List.map_take List.map_drop
attribute [local simp] take_map drop_map List.take_take
def allF : Nat → List UInt8 → List (List UInt8) × Nat
  | 0, _ => ([], 0)
  | n + 1, l => if (takeB l).2.2 = 0 then ((takeB l).1 :: (allF n (l.drop (takeB l).2.1)).1, (takeB l).2.1 + (allF n (l.drop (takeB l).2.1)).2) else ([], 0)
def allB (l : List UInt8) : List (List UInt8) × Nat := allF (l.length + 1) l
theorem takeB_ok {l : List UInt8} (h : (takeB l).2.2 = 0) : 8 ≤ l.length ∧ num l ≤ 16777215 ∧ 8 + num l ≤ l.length ∧ num (l.drop 4) = crcN ((l.drop 8).take (num l)) ∧ takeB l = ((l.drop 8).take (num l), 8 + num l, 0) := by
  by_cases h1 : l.length < 8
  · rw [takeB_1 h1] at h; cases h
  by_cases h2 : 16777215 < num l
  · rw [takeB_2 (by omega) h2] at h; cases h
  by_cases h3 : l.length < 8 + num l
  · rw [takeB_3 (by omega) (by omega) h3] at h; cases h
  by_cases h4 : num (l.drop 4) = crcN ((l.drop 8).take (num l))
  · exact ⟨by omega, by omega, by omega, h4, takeB_4 (by omega) (by omega) (by omega) h4⟩
  · rw [takeB_5 (by omega) (by omega) (by omega) h4] at h; cases h
theorem takeB_bad {l : List UInt8} (h : (takeB l).2.2 ≠ 0) : ((takeB l).2.2 = 10 ∨ (takeB l).2.2 = 12 ∨ (takeB l).2.2 = 13) ∧ (takeB l).1 = [] ∧ (takeB l).2.1 = 0 := by
  by_cases h1 : l.length < 8
  · rw [takeB_1 h1]; simp
  by_cases h2 : 16777215 < num l
  · rw [takeB_2 (by omega) h2]; simp
  by_cases h3 : l.length < 8 + num l
  · rw [takeB_3 (by omega) (by omega) h3]; simp
  by_cases h4 : num (l.drop 4) = crcN ((l.drop 8).take (num l))
  · rw [takeB_4 (by omega) (by omega) (by omega) h4] at h; exact absurd rfl h
  · rw [takeB_5 (by omega) (by omega) (by omega) h4]; simp
theorem takeB_len {l : List UInt8} (h : (takeB l).2.2 = 0) : 8 ≤ (takeB l).2.1 ∧ (takeB l).2.1 ≤ l.length ∧ (takeB l).2.1 = 8 + (takeB l).1.length ∧ (takeB l).1.length ≤ 16777215 := by
  obtain ⟨h1, h2, h3, h4, h5⟩ := takeB_ok h
  have : ((l.drop 8).take (num l)).length = num l := by simp; omega
  rw [h5]
  exact ⟨by show 8 ≤ 8 + num l; omega, h3, by show 8 + num l = _; simp only [this], by simp only [this]; omega⟩
theorem allF_enough : ∀ (n m : Nat) (l : List UInt8), l.length < n → l.length < m → allF n l = allF m l
  | 0, _, l, h, _ => by omega
  | n + 1, 0, l, _, h => by omega
  | n + 1, m + 1, l, h, h' => by
    simp only [allF]
    split
    · rename_i h0
      have := takeB_len h0
      rw [allF_enough n m (l.drop (takeB l).2.1) (by simp; omega) (by simp; omega)]
    · rfl
theorem allB_step {l : List UInt8} (h : (takeB l).2.2 = 0) : allB l = ((takeB l).1 :: (allB (l.drop (takeB l).2.1)).1, (takeB l).2.1 + (allB (l.drop (takeB l).2.1)).2) := by
  have := takeB_len h
  unfold allB
  conv => lhs; unfold allF
  rw [if_pos h, allF_enough l.length ((l.drop (takeB l).2.1).length + 1) _ (by simp; omega) (by omega)]
theorem allB_stop {l : List UInt8} (h : (takeB l).2.2 ≠ 0) : allB l = ([], 0) := by
  unfold allB allF
  rw [if_neg h]
/-- Between two rounds: a bytes are taken. -/
def AllAt (l : List UInt8) (acc : List (List UInt8)) (a : Nat) : Prop := a ≤ l.length ∧ acc.length ≤ a ∧ allB l = (acc ++ (allB (l.drop a)).1, a + (allB (l.drop a)).2)
theorem AllAt.start (l : List UInt8) : AllAt l [] 0 := ⟨Nat.zero_le _, Nat.zero_le _, by simp⟩
theorem AllAt.next {l : List UInt8} {acc : List (List UInt8)} {a : Nat} (h : AllAt l acc a) (h0 : (takeB (l.drop a)).2.2 = 0) : AllAt l (acc ++ [(takeB (l.drop a)).1]) (a + (takeB (l.drop a)).2.1) := by
  obtain ⟨h1, h2, h3⟩ := h
  have := takeB_len h0
  refine ⟨by simp at this; omega, by simp; omega, ?_⟩
  rw [h3, allB_step h0]
  simp [Nat.add_assoc]
theorem AllAt.done {l : List UInt8} {acc : List (List UInt8)} {a : Nat} (h : AllAt l acc a) (h0 : (takeB (l.drop a)).2.2 ≠ 0) : allB l = (acc, a) := by
  rw [h.2.2, allB_stop h0]; simp
@[simp] theorem byV_s {y : List UInt8} : (byV y).strip = byV y := by simp [byV]
@[simp] theorem byV_comp : AV.strip ∘ byV = byV := funext fun _ => byV_s
@[simp] theorem byV_cells {y : List UInt8} : (byV y).cells = [byV y] := rfl
@[simp] theorem byV_one {y : List UInt8} : (byV y).one = true := rfl
@[simp] theorem byV_known {y : List UInt8} : (byV y).known = true := rfl
@[simp] theorem byV_bel {m : Nat} {y : List UInt8} : Bel m (byV y) := by simp [byV]
theorem plain_str (x : List UInt8) : (AV.str x).strip = .str x := by simp
end Go.Proofs.Ytdoaglcnncapdaa.F

/- Frames: what is put is taken; the document's example. -/
set_option linter.unusedVariables false
set_option linter.unusedSimpArgs false
set_option maxRecDepth 20000
namespace Go.Proofs.Ytdoaglcnncapdaa.F
open Go Go.Proofs.Ytdoaglcnncapdaa.V
attribute [-simp] List.map_take List.map_drop
attribute [local simp] take_map drop_map List.take_take
theorem num_le4 (n : Nat) (h : n < 4294967296) (r : List UInt8) : num (le4 n ++ r) = n := by
  unfold num le4
  simp only [List.cons_append, List.nil_append, List.getD_cons_zero, List.getD_cons_succ, b8n_toNat]
  omega
theorem fr_length (l : List UInt8) : (fr l).length = 8 + l.length := by simp [fr]; omega
theorem takeB_fr (l r : List UInt8) (hl : l.length ≤ 16777215) : takeB (fr l ++ r) = (l, 8 + l.length, 0) := by
  have e0 : num (fr l ++ r) = l.length := by
    have : fr l ++ r = le4 l.length ++ (le4 (crcN l) ++ l ++ r) := by simp [fr]
    rw [this, num_le4 _ (by omega)]
  have e1 : (fr l ++ r).drop 4 = le4 (crcN l) ++ (l ++ r) := by simp [fr, le4]
  have e2 : (fr l ++ r).drop 8 = l ++ r := by simp [fr, le4]
  rw [takeB_4 (by simp [fr_length]; omega) (by omega) (by simp [fr_length]; omega)]
  · rw [e0, e2]; simp
  · rw [e0, e1, e2, num_le4 _ (crcN_lt l)]; simp
def frs (l : List (List UInt8)) : List UInt8 := l.flatMap fr
theorem frs_cons (x : List UInt8) (l : List (List UInt8)) : frs (x :: l) = fr x ++ frs l := rfl
theorem frs_app (k l : List (List UInt8)) : frs (k ++ l) = frs k ++ frs l := by simp [frs]
theorem allB_frs : ∀ (l : List (List UInt8)) (r : List UInt8), (∀ x ∈ l, x.length ≤ 16777215) → allB (frs l ++ r) = (l ++ (allB r).1, (frs l).length + (allB r).2)
  | [], r, h => by simp [frs]
  | x :: l, r, h => by
    have ht := takeB_fr x (frs l ++ r) (h x (by simp))
    rw [frs_cons, List.append_assoc, allB_step (by rw [ht]), ht]
    have hd : (fr x ++ (frs l ++ r)).drop (8 + x.length) = frs l ++ r := by
      rw [← fr_length]; simp
    simp only [hd]
    rw [allB_frs l r fun y hy => h y (by simp [hy])]
    simp [fr_length]; omega
theorem crcN_nil : crcN [] = 0 := rfl
theorem fr_nil : fr [] = List.replicate 8 0 := by simp [fr, crcN_nil, le4, b8n]
theorem allB_nil : allB [] = ([], 0) := allB_stop (by rw [takeB_1 (by simp)]; simp)
end Go.Proofs.Ytdoaglcnncapdaa.F
