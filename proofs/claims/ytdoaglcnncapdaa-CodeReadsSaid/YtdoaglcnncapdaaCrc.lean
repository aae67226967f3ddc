/- The plain law of the sum: what is told of a sum of bytes, without the program. -/
namespace Go.Proofs.Ytdoaglcnncapdaa.Crc
def poly : BitVec 32 := 0xedb88320#32
def step (x : BitVec 32) : BitVec 32 := (x >>> 1) ^^^ (if x.getLsbD 0 = true then poly else 0#32)
def steps : Nat → BitVec 32 → BitVec 32
  | 0, x => x
  | n + 1, x => steps n (step x)
def step8 (x : BitVec 32) : BitVec 32 := steps 8 x
def upd (x : BitVec 32) (c : Nat) : BitVec 32 := step8 (x ^^^ BitVec.ofNat 32 c)
def crc (s : BitVec 32) (l : List Nat) : BitVec 32 := ~~~ (l.foldl upd (~~~ s))

theorem steps_succ (n : Nat) (x : BitVec 32) : steps (n + 1) x = step (steps n x) := by
  induction n generalizing x with
  | zero => rfl
  | succ n ih => rw [steps, ih (step x)]; rfl

theorem step_xor (x y : BitVec 32) : step (x ^^^ y) = step x ^^^ step y := by
  unfold step
  rw [BitVec.ushiftRight_xor_distrib, BitVec.getLsbD_xor]
  cases x.getLsbD 0 <;> cases y.getLsbD 0 <;> simp
  · rw [BitVec.xor_assoc]
  · rw [BitVec.xor_assoc, BitVec.xor_assoc, BitVec.xor_comm (y >>> 1)]
  · rw [BitVec.xor_assoc, ← BitVec.xor_assoc poly, BitVec.xor_comm poly, BitVec.xor_assoc (y >>> 1), BitVec.xor_self, BitVec.xor_zero]

theorem steps_xor (n : Nat) (x y : BitVec 32) : steps n (x ^^^ y) = steps n x ^^^ steps n y := by
  induction n generalizing x y with
  | zero => rfl
  | succ n ih => simp only [steps, step_xor, ih]

theorem step8_xor (x y : BitVec 32) : step8 (x ^^^ y) = step8 x ^^^ step8 y := steps_xor 8 x y

theorem step_zero {x : BitVec 32} (h : step x = 0#32) : x = 0#32 := by
  unfold step at h
  cases hb : x.getLsbD 0 with
  | true =>
    rw [hb] at h
    have := congrArg (fun z => z.getLsbD 31) h
    simp [poly] at this
  | false =>
    rw [hb] at h
    simp at h
    apply BitVec.eq_of_getLsbD_eq
    intro i hi
    cases i with
    | zero => simpa using hb
    | succ i =>
      have := congrArg (fun z => z.getLsbD i) h
      simp only [BitVec.getLsbD_ushiftRight] at this
      rw [show i + 1 = 1 + i by omega]; simpa using this

theorem step_inj {x y : BitVec 32} (h : step x = step y) : x = y := by
  have h1 : step (x ^^^ y) = 0#32 := by rw [step_xor, h, BitVec.xor_self]
  have h2 := step_zero h1
  exact BitVec.xor_eq_zero_iff.1 h2

theorem steps_inj (n : Nat) {x y : BitVec 32} (h : steps n x = steps n y) : x = y := by
  induction n generalizing x y with
  | zero => exact h
  | succ n ih => exact step_inj (ih h)
theorem step8_inj {x y : BitVec 32} (h : step8 x = step8 y) : x = y := steps_inj 8 h

theorem step_even {x : BitVec 32} (h : x.getLsbD 0 = false) : step x = x >>> 1 := by unfold step; rw [h]; simp
theorem steps_low (n : Nat) : ∀ {x : BitVec 32}, (∀ i, i < n → x.getLsbD i = false) → steps n x = x >>> n := by
  induction n with
  | zero => intro x _; simp [steps]
  | succ n ih =>
    intro x h
    rw [steps, step_even (h 0 (by omega)), ih (fun i hi => by rw [BitVec.getLsbD_ushiftRight]; exact h _ (by omega))]
    rw [← BitVec.shiftRight_add]; congr 1; omega

/-- What a byte makes. -/
def tab (i : Nat) : BitVec 32 := step8 (BitVec.ofNat 32 i)

theorem split (z : BitVec 32) : z = (BitVec.ofNat 32 (z.toNat % 256)) ^^^ ((z >>> 8) <<< 8) := by
  apply BitVec.eq_of_getLsbD_eq
  intro i hi
  rw [BitVec.getLsbD_xor, BitVec.getLsbD_ofNat, BitVec.getLsbD_shiftLeft, BitVec.getLsbD_ushiftRight]
  rw [show (256 : Nat) = 2 ^ 8 by rfl, Nat.testBit_mod_two_pow]
  by_cases h8 : i < 8
  · simp [h8, hi, BitVec.getLsbD]
  · simp [h8, hi, show 8 + (i - 8) = i by omega]

theorem step8_split (z : BitVec 32) : step8 z = tab (z.toNat % 256) ^^^ (z >>> 8) := by
  conv => lhs; rw [split z]
  rw [step8_xor]
  congr 1
  unfold step8
  rw [steps_low 8 (by intro i hi; simp [BitVec.getLsbD_shiftLeft]; omega)]
  apply BitVec.eq_of_getLsbD_eq
  intro i hi
  simp only [BitVec.getLsbD_ushiftRight, BitVec.getLsbD_shiftLeft]
  by_cases h : 8 + i < 32
  · simp [h]
  · simp [h]; rw [BitVec.getLsbD_of_ge]; omega

/-- As the program does it: by what a byte makes. -/
theorem upd_tab (x : BitVec 32) (c : Nat) (hc : c < 256) : upd x c = tab ((x.toNat ^^^ c) % 256) ^^^ (x >>> 8) := by
  unfold upd
  rw [step8_split]
  congr 1
  · congr 2
    rw [BitVec.toNat_xor, BitVec.toNat_ofNat, Nat.mod_eq_of_lt (by omega)]
  · apply BitVec.eq_of_getLsbD_eq
    intro i hi
    simp only [BitVec.getLsbD_ushiftRight, BitVec.getLsbD_xor, BitVec.getLsbD_ofNat]
    rw [Nat.testBit_lt_two_pow (x := c) (i := 8 + i) (Nat.lt_of_lt_of_le hc (by rw [show 256 = 2 ^ 8 by rfl]; exact Nat.pow_le_pow_right (by omega) (by omega)))]
    simp

theorem upd_inj_left {x y : BitVec 32} {c : Nat} (h : upd x c = upd y c) : x = y := by
  have := step8_inj h
  have h2 : x ^^^ BitVec.ofNat 32 c ^^^ BitVec.ofNat 32 c = y ^^^ BitVec.ofNat 32 c ^^^ BitVec.ofNat 32 c := by rw [this]
  simpa [BitVec.xor_assoc] using h2
theorem xor_cancel {x a b : BitVec 32} (h : x ^^^ a = x ^^^ b) : a = b := by
  have h2 : x ^^^ (x ^^^ a) = x ^^^ (x ^^^ b) := by rw [h]
  simpa [← BitVec.xor_assoc] using h2
theorem ofNat_inj {a b : Nat} (ha : a < 256) (hb : b < 256) (h : BitVec.ofNat 32 a = BitVec.ofNat 32 b) : a = b := by
  have := congrArg BitVec.toNat h
  simp only [BitVec.toNat_ofNat] at this
  omega
theorem upd_inj_right {x : BitVec 32} {a b : Nat} (ha : a < 256) (hb : b < 256) (h : upd x a = upd x b) : a = b :=
  ofNat_inj ha hb (xor_cancel (step8_inj h))
theorem fold_inj (l : List Nat) : ∀ {x y : BitVec 32}, l.foldl upd x = l.foldl upd y → x = y := by
  induction l with
  | nil => intro x y h; exact h
  | cons c l ih => intro x y h; exact upd_inj_left (ih h)
theorem not_inj {x y : BitVec 32} (h : ~~~ x = ~~~ y) : x = y := by
  have := congrArg (fun z => ~~~ z) h
  simpa using this

theorem crc_append (s : BitVec 32) (a b : List Nat) : crc s (a ++ b) = crc (crc s a) b := by
  unfold crc
  rw [List.foldl_append, BitVec.not_not]

/-- ONE BYTE TURNED. -/
theorem crc_turned (s : BitVec 32) (a b : List Nat) (c d : Nat) (hc : c < 256) (hd : d < 256) : crc s (a ++ c :: b) = crc s (a ++ d :: b) ↔ c = d := by
  refine ⟨fun h => ?_, fun h => by rw [h]⟩
  unfold crc at h
  have h := not_inj h
  rw [List.foldl_append, List.foldl_append, List.foldl_cons, List.foldl_cons] at h
  exact upd_inj_right hc hd (fold_inj b h)

theorem tab_fix : ∀ d : Fin 256, tab d.val = BitVec.ofNat 32 d.val → d = 0 := by decide +kernel

theorem xor_lt {c d : Nat} (hc : c < 256) (hd : d < 256) : c ^^^ d < 256 := Nat.xor_lt_two_pow (n := 8) hc hd
theorem xor_zero_iff {c d : Nat} (h : c ^^^ d = 0) : c = d := by
  have h2 : (c ^^^ d) ^^^ d = 0 ^^^ d := by rw [h]
  rwa [Nat.xor_assoc, Nat.xor_self, Nat.xor_zero, Nat.zero_xor] at h2

/-- TWO BYTES SIDE BY SIDE SWAPPED. -/
theorem crc_swap (s : BitVec 32) (a b : List Nat) (c d : Nat) (hc : c < 256) (hd : d < 256) : crc s (a ++ c :: d :: b) = crc s (a ++ d :: c :: b) ↔ c = d := by
  refine ⟨fun h => ?_, fun h => by rw [h]⟩
  unfold crc at h
  have h := not_inj h
  rw [List.foldl_append, List.foldl_append] at h
  simp only [List.foldl_cons] at h
  have h := fold_inj b h
  generalize a.foldl upd (~~~ s) = x at h
  have h := step8_inj h
  unfold upd at h
  rw [step8_xor, step8_xor] at h
  have h3 : step8 (BitVec.ofNat 32 c) ^^^ BitVec.ofNat 32 d = step8 (BitVec.ofNat 32 d) ^^^ BitVec.ofNat 32 c := xor_cancel (x := step8 x) (by simpa [BitVec.xor_assoc] using h)
  have h4 : tab (c ^^^ d) = BitVec.ofNat 32 (c ^^^ d) := by
    unfold tab
    rw [show BitVec.ofNat 32 (c ^^^ d) = BitVec.ofNat 32 c ^^^ BitVec.ofNat 32 d by simp [BitVec.ofNat_xor], step8_xor]
    have h5 := congrArg (fun z => z ^^^ step8 (BitVec.ofNat 32 d) ^^^ BitVec.ofNat 32 d) h3
    have e1 : step8 (BitVec.ofNat 32 c) ^^^ BitVec.ofNat 32 d ^^^ step8 (BitVec.ofNat 32 d) ^^^ BitVec.ofNat 32 d = step8 (BitVec.ofNat 32 c) ^^^ step8 (BitVec.ofNat 32 d) := by
      rw [BitVec.xor_assoc (step8 (BitVec.ofNat 32 c)), BitVec.xor_comm (BitVec.ofNat 32 d), ← BitVec.xor_assoc, BitVec.xor_assoc _ (BitVec.ofNat 32 d), BitVec.xor_self, BitVec.xor_zero]
    have e2 : step8 (BitVec.ofNat 32 d) ^^^ BitVec.ofNat 32 c ^^^ step8 (BitVec.ofNat 32 d) ^^^ BitVec.ofNat 32 d = BitVec.ofNat 32 c ^^^ BitVec.ofNat 32 d := by
      rw [BitVec.xor_comm (step8 (BitVec.ofNat 32 d)), BitVec.xor_assoc (BitVec.ofNat 32 c), BitVec.xor_self, BitVec.xor_zero]
    rw [e1, e2] at h5; exact h5
  have h5 := tab_fix ⟨c ^^^ d, xor_lt hc hd⟩ h4
  have h6 : c ^^^ d = 0 := congrArg Fin.val h5
  exact xor_zero_iff h6

theorem tab_xor (a b : Nat) : tab (a ^^^ b) = tab a ^^^ tab b := by
  unfold tab
  rw [show BitVec.ofNat 32 (a ^^^ b) = BitVec.ofNat 32 a ^^^ BitVec.ofNat 32 b by simp [BitVec.ofNat_xor], step8_xor]
theorem tab_inj {a b : Nat} (ha : a < 256) (hb : b < 256) : tab a = tab b ↔ a = b := ⟨fun h => ofNat_inj ha hb (step8_inj h), fun h => by rw [h]⟩
theorem tab_zero : tab 0 = 0#32 := by decide +kernel
end Go.Proofs.Ytdoaglcnncapdaa.Crc
