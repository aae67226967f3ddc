/- Ballots: what each function of package ballot, and of its reference, computes: contracts for every world. -/
import Derived.Test.YtjlohcacpjpdbaaProg
import Derived.Test.YtjlohcacpjpdbaaBase
import Derived.Test.YtjlohcacpjpdbaaRegion
import Derived.Test.YtjlohcacpjpdbaaRead
set_option linter.unusedVariables false
set_option linter.unusedSimpArgs false
namespace Go.Proofs.Ytjlohcacpjpdbaa.Bal
open Go.RowKit
open Go.Proofs.Ytjlohcacpjpdbaa Go.Proofs.Ytjlohcacpjpdbaa.Base Go.Proofs.Ytjlohcacpjpdbaa.Read
def lessB (n d m e : Int) : Bool := if n = m then decide (d < e) else decide (n < m)
set_option maxHeartbeats 400000 in
theorem less_any (n d m e : Int) (w : World) :
    Calls Try.prog 10 #[.agg #[.int .i64 n, .int .i64 d], .agg #[.int .i64 m, .int .i64 e]] w fun x w' => x = .returned (.bool (lessB n d m e)) ∧ Below w.heap.size w w' := by
  by_cases h : n = m
  · subst h
    go_enter Try.func10, Try.ntmps10
    go_wp2
    go_ret
    exact ⟨by simp [lessB], below_al (below_al' _ _) _⟩
  · have hb : (n == m) = false := by simpa using h
    go_enter Try.func10, Try.ntmps10
    go_wp2
    go_ret
    exact ⟨by simp [lessB, h], below_al (below_al' _ _) _⟩
set_option maxHeartbeats 400000 in
theorem rless_any (n d m e : Int) (w : World) :
    Calls Try.prog 11 #[.agg #[.int .i64 n, .int .i64 d], .agg #[.int .i64 m, .int .i64 e]] w fun x w' => x = .returned (.bool (lessB n d m e)) ∧ Below w.heap.size w w' := by
  by_cases h : n = m
  · subst h
    have hb : decide (n < n) = false := by simp
    go_enter Try.func11, Try.ntmps11
    go_wp2
    go_ret
    exact ⟨by simp [lessB], below_al (below_al' _ _) _⟩
  · by_cases h2 : n < m
    · go_enter Try.func11, Try.ntmps11
      go_wp2
      go_ret
      exact ⟨by simp [lessB, h, h2], below_al (below_al' _ _) _⟩
    · have hd : decide (n < m) = false := by simpa using h2
      have hb : (n == m) = false := by simpa using h
      clear h2 h
      go_enter Try.func11, Try.ntmps11
      go_wp2
      go_ret
      exact ⟨by simp at hb hd; simp [lessB, hb]; omega, below_al (below_al' _ _) _⟩
set_option maxHeartbeats 400000 in
theorem first_any (a b c : Int) (w : World) :
    Calls Try.prog 14 #[.agg #[.int .i64 a, .int .i64 b, .int .i64 c]] w fun x w' => x = .returned (.agg #[.int .i64 0, .int .i64 b]) ∧ Below w.heap.size w w' := by
  go_enter Try.func14, Try.ntmps14
  go_wp2
  refine bodyPost_ret (v := .agg #[.int .i64 0, .int .i64 b]) (by simp [results, Try.results14, go_sem]) rfl ⟨?_, ?_⟩
  · rfl
  · repeat (first | exact Below.refl _ _ | exact below_al' _ _ | apply below_al | apply Below.drew)
set_option maxHeartbeats 400000 in
theorem next_any (a b c : Int) (w : World) :
    Calls Try.prog 15 #[.agg #[.int .i64 a, .int .i64 b], .int .i64 c] w fun x w' => x = .returned (.agg #[.int .i64 (wrap64 (a + 1)), .int .i64 c]) ∧ Below w.heap.size w w' := by
  go_enter Try.func15, Try.ntmps15
  go_wp2
  refine bodyPost_ret (v := .agg #[.int .i64 (wrap64 (a + 1)), .int .i64 c]) (by simp [results, Try.results15, go_sem]) rfl ⟨?_, ?_⟩
  · rfl
  · repeat (first | exact Below.refl _ _ | exact below_al' _ _ | apply below_al | apply Below.drew)
def mostB (n d m e : Int) : Int × Int := if lessB n d m e then (m, e) else (n, d)
theorem mostB_same (n d : Int) : mostB n d n d = (n, d) := by simp [mostB]
set_option maxHeartbeats 400000 in
theorem most_any (n d m e : Int) (w : World) :
    Calls Try.prog 12 #[.agg #[.int .i64 n, .int .i64 d], .agg #[.int .i64 m, .int .i64 e]] w fun x w' => x = .returned (.agg #[.int .i64 (mostB n d m e).1, .int .i64 (mostB n d m e).2]) ∧ Below w.heap.size w w' := by
  by_cases hn : n = m
  · subst hn
    by_cases hd : d = e
    · subst hd
      have HM := Lib.hid (mostB_same n d)
      go_enter Try.func12, Try.ntmps12
      go_wp2
      refine bodyPost_ret (v := .agg #[.int .i64 n, .int .i64 d]) (by simp [results, Try.results12, go_sem]) rfl ⟨?_, ?_⟩
      · rw [HM.out]
      · repeat (first | exact Below.refl _ _ | exact below_al' _ _ | apply below_al | apply Below.drew)
    · have hb : (d == e) = false := by simpa using hd
      by_cases hl : d < e
      · have HM : Hid (mostB n d n e = (n, e)) := by show _ = _; simp [mostB, lessB, hl]
        have hdl : decide (d < e) = true := by simpa using hl
        clear hd hl
        go_enter Try.func12, Try.ntmps12
        go_wp2
        refine bodyPost_ret (v := .agg #[.int .i64 n, .int .i64 e]) (by simp [results, Try.results12, go_sem]) rfl ⟨?_, ?_⟩
        · rw [HM.out]
        · repeat (first | exact Below.refl _ _ | exact below_al' _ _ | apply below_al | apply Below.drew)
      · have HM : Hid (mostB n d n e = (n, d)) := by show _ = _; simp [mostB, lessB, hl]
        have hdl : decide (d < e) = false := by simpa using hl
        clear hd hl
        go_enter Try.func12, Try.ntmps12
        go_wp2
        refine bodyPost_ret (v := .agg #[.int .i64 n, .int .i64 d]) (by simp [results, Try.results12, go_sem]) rfl ⟨?_, ?_⟩
        · rw [HM.out]
        · repeat (first | exact Below.refl _ _ | exact below_al' _ _ | apply below_al | apply Below.drew)
  · have hb : (n == m) = false := by simpa using hn
    by_cases hl : n < m
    · have HM : Hid (mostB n d m e = (m, e)) := by show _ = _; simp [mostB, lessB, hl, hn]
      have hdl : decide (n < m) = true := by simpa using hl
      clear hn hl
      go_enter Try.func12, Try.ntmps12
      go_wp2
      refine bodyPost_ret (v := .agg #[.int .i64 m, .int .i64 e]) (by simp [results, Try.results12, go_sem]) rfl ⟨?_, ?_⟩
      · rw [HM.out]
      · repeat (first | exact Below.refl _ _ | exact below_al' _ _ | apply below_al | apply Below.drew)
    · have HM : Hid (mostB n d m e = (n, d)) := by show _ = _; simp [mostB, lessB, hl, hn]
      have hdl : decide (n < m) = false := by simpa using hl
      clear hn hl
      go_enter Try.func12, Try.ntmps12
      go_wp2
      refine bodyPost_ret (v := .agg #[.int .i64 n, .int .i64 d]) (by simp [results, Try.results12, go_sem]) rfl ⟨?_, ?_⟩
      · rw [HM.out]
      · repeat (first | exact Below.refl _ _ | exact below_al' _ _ | apply below_al | apply Below.drew)
theorem rmost_any (n d m e : Int) (w : World) :
    Calls Try.prog 13 #[.agg #[.int .i64 n, .int .i64 d], .agg #[.int .i64 m, .int .i64 e]] w fun x w' => x = .returned (.agg #[.int .i64 (mostB n d m e).1, .int .i64 (mostB n d m e).2]) ∧ Below w.heap.size w w' := by
  by_cases hn : n = m
  · subst hn
    have hb0 : decide (n < n) = false := by simp
    by_cases hl : d < e
    · have HM : Hid (mostB n d n e = (n, e)) := by show _ = _; simp [mostB, lessB, hl]
      have hdl : decide (d < e) = true := by simpa using hl
      clear hl
      go_enter Try.func13, Try.ntmps13
      go_wp2
      refine bodyPost_ret (v := .agg #[.int .i64 n, .int .i64 e]) (by simp [results, Try.results13, go_sem]) rfl ⟨?_, ?_⟩
      · rw [HM.out]
      · repeat (first | exact Below.refl _ _ | exact below_al' _ _ | apply below_al | apply Below.drew)
    · have HM : Hid (mostB n d n e = (n, d)) := by show _ = _; simp [mostB, lessB, hl]
      have hdl : decide (d < e) = false := by simpa using hl
      clear hl
      go_enter Try.func13, Try.ntmps13
      go_wp2
      refine bodyPost_ret (v := .agg #[.int .i64 n, .int .i64 d]) (by simp [results, Try.results13, go_sem]) rfl ⟨?_, ?_⟩
      · rw [HM.out]
      · repeat (first | exact Below.refl _ _ | exact below_al' _ _ | apply below_al | apply Below.drew)
  · have hb : (n == m) = false := by simpa using hn
    by_cases hl : n < m
    · have HM : Hid (mostB n d m e = (m, e)) := by show _ = _; simp [mostB, lessB, hl, hn]
      have hdl : decide (n < m) = true := by simpa using hl
      clear hn hl
      go_enter Try.func13, Try.ntmps13
      go_wp2
      refine bodyPost_ret (v := .agg #[.int .i64 m, .int .i64 e]) (by simp [results, Try.results13, go_sem]) rfl ⟨?_, ?_⟩
      · rw [HM.out]
      · repeat (first | exact Below.refl _ _ | exact below_al' _ _ | apply below_al | apply Below.drew)
    · have HM : Hid (mostB n d m e = (n, d)) := by show _ = _; simp [mostB, lessB, hl, hn]
      have hdl : decide (n < m) = false := by simpa using hl
      clear hn hl
      go_enter Try.func13, Try.ntmps13
      go_wp2
      refine bodyPost_ret (v := .agg #[.int .i64 n, .int .i64 d]) (by simp [results, Try.results13, go_sem]) rfl ⟨?_, ?_⟩
      · rw [HM.out]
      · repeat (first | exact Below.refl _ _ | exact below_al' _ _ | apply below_al | apply Below.drew)
def validB (n d : Int) : Bool := decide (0 ≤ n ∧ n ≤ 1099511627776 ∧ 0 ≤ d ∧ d ≤ 31)
theorem ret_bool {a b : Bool} (h : a = true ↔ b = true) : Ending.returned (.bool a) = .returned (.bool b) := by
  have : a = b := by rw [Bool.eq_iff_iff]; exact h
  rw [this]
theorem valid_any (n d : Int) (w : World) :
    Calls Try.prog 16 #[.agg #[.int .i64 n, .int .i64 d]] w fun x w' => x = .returned (.bool (validB n d)) ∧ Below w.heap.size w w' := by
  go_enter Try.func16, Try.ntmps16
  go_wp2
  all_goals go_ret
  all_goals refine ⟨?_, ?_⟩
  all_goals first
    | exact ret_bool (by unfold validB; simp; omega)
    | repeat (first | exact Below.refl _ _ | exact below_al' _ _ | apply below_al | apply Below.drew)
theorem rvalid_any (n d : Int) (w : World) :
    Calls Try.prog 17 #[.agg #[.int .i64 n, .int .i64 d]] w fun x w' => x = .returned (.bool (validB n d)) ∧ Below w.heap.size w w' := by
  go_enter Try.func17, Try.ntmps17
  go_wp2
  all_goals go_ret
  all_goals refine ⟨?_, ?_⟩
  all_goals first
    | exact ret_bool (by unfold validB; simp; omega)
    | repeat (first | exact Below.refl _ _ | exact below_al' _ _ | apply below_al | apply Below.drew)
def quorumN (n : Int) : Int := if n < 1 then 0 else n / 2 + 1
theorem quorum_any (n : Int) (hn : n < 9223372036854775807) (w : World) :
    Calls Try.prog 19 #[.int .i64 n] w fun x w' => x = .returned (.int .i64 (quorumN n)) ∧ w = w' := by
  by_cases h : n < 1
  · have HQ : Hid (quorumN n = 0) := by show _ = _; simp [quorumN, h]
    clear hn
    go_enter Try.func19, Try.ntmps19
    go_wp2
    go_ret
    exact ⟨ret_int (by rw [HQ.out]), rfl⟩
  · have HQ : Hid (quorumN n = n / 2 + 1) := by show _ = _; simp [quorumN, h]
    have HW : Hid (wrap64 (n / 2 + 1) = n / 2 + 1) := by show _ = _; unfold wrap64; omega
    have h1 : 1 ≤ n := by omega
    clear hn h
    go_enter Try.func19, Try.ntmps19
    go_wp2
    go_ret
    exact ⟨ret_int (by rw [HQ.out, HW.out]), rfl⟩
set_option maxRecDepth 100000 in
theorem rquorum_any (n : Int) (hn : n ≤ 100000) (w : World) :
    Calls Try.prog 20 #[.int .i64 n] w fun x w' => x = .returned (.int .i64 (quorumN n)) ∧ w = w' := by
  by_cases h : n < 1
  · have HQ : Hid (quorumN n = 0) := by show _ = _; simp [quorumN, h]
    clear hn
    go_enter Try.func20, Try.ntmps20
    go_wp2
    go_ret
    exact ⟨ret_int (by rw [HQ.out]), rfl⟩
  · have HQ : Hid (quorumN n = n / 2 + 1) := by show _ = _; simp [quorumN, h]
    have hd1 : decide (n < 1) = false := by simpa using h
    obtain ⟨m, rfl⟩ : ∃ m : Nat, n = (m : Int) := ⟨n.toNat, by omega⟩
    have h1 : (1 : Int) ≤ (m : Int) := by omega
    clear h
    go_enter Try.func20, Try.ntmps20
    go_wp2
    go_loop [3, 6, 7, 8, 9, 10, 11] (fun x _ _ _ _ _ _ => ∃ k : Nat, (k : Int) ≤ (m : Int) / 2 + 1 ∧ x = .int .i64 k) (fun x _ _ _ _ _ _ => (m / 2 + 1) - (intOf x).toNat)
    case atStart => exact ⟨0, by omega, rfl⟩
    case round =>
      obtain ⟨k, hk, rfl⟩ := hrel
      by_cases hlt : 2 * (k : Int) ≤ (m : Int)
      · go_wp2
        go_round
        case rel => exact ⟨k + 1, by omega, by go_num⟩
        case measure => simp [intOf]; omega
      · go_wp2
        go_ret
        exact ⟨ret_int (by rw [HQ.out]; omega), rfl⟩
def idxL (l : List Int) (x : Int) : Int := if x ∈ l then (l.idxOf x : Int) else -1
theorem idxL_at {l : List Int} {x : Int} {k : Nat} (hk : k < l.length) (h : l[k] = x) (hn : x ∉ l.take k) : idxL l x = (k : Int) := by
  have hm : x ∈ l := by rw [← h]; exact List.getElem_mem hk
  have hd : l = l.take k ++ l.drop k := (List.take_append_drop k l).symm
  have he : l.idxOf x = k := by
    rw [hd, List.idxOf_append, if_neg hn, List.drop_eq_getElem_cons hk, h]
    simp; omega
  simp [idxL, hm, he]
theorem idxL_no {l : List Int} {x : Int} (h : x ∉ l) : idxL l x = -1 := by simp [idxL, h]
theorem not_take_succ {l : List Int} {x : Int} {k : Nat} (hk : k < l.length) (h : ¬ l[k] = x) (hn : x ∉ l.take k) : x ∉ l.take (k + 1) := by
  rw [List.take_succ_eq_append_getElem hk, List.mem_append, List.mem_singleton]; exact fun e => e.elim hn fun e => h e.symm
set_option maxRecDepth 100000 in
theorem index_any (A : Option Addr) (n c : Nat) (l : List Int) (hn : l.length = n) (x : Int) (w : World) (hA : Row 1 (rInt .i64) w A l) :
    Calls Try.prog 27 #[.slice A n c, .int .i64 x] w fun e w' => e = .returned (.int .i64 (idxL l x)) ∧ w = w' := by
  have hnl : n ≤ 9223372036854775807 := by have := hA.1; unfold maxLen at this; omega
  go_enter Try.func27, Try.ntmps27
  go_wp2
  go_loop [5, 8, 9, 10, 11, 12, 13, 14, 15, 16, 18] (fun _ i _ _ _ _ _ _ _ _ _ => ∃ k : Nat, k ≤ n ∧ i = .int .i64 k ∧ x ∉ l.take k) (fun _ i _ _ _ _ _ _ _ _ _ => n - (intOf i).toNat)
  case atStart => exact ⟨0, by omega, rfl, by simp⟩
  case round =>
    obtain ⟨k, hk, rfl, hx⟩ := hrel
    by_cases hlt : k < n
    · have hkl : k < l.length := by omega
      obtain ⟨b, off, rfl, hc⟩ := hA.ints (by omega)
      have hck := hc k hkl
      clear hc hA
      by_cases hx2 : l[k] = x
      · have HI := Lib.hid (idxL_at hkl hx2 hx)
        have hb : (x == l[k]) = true := by simp [hx2]
        clear hx2 hx
        go_wp2
        go_ret
        exact ⟨ret_int (by rw [HI.out]), rfl⟩
      · have HX := Lib.hid (not_take_succ hkl hx2 hx)
        have hb : (x == l[k]) = false := by simpa using fun e => hx2 e.symm
        clear hx2 hx
        go_wp2
        go_round
        case rel => exact ⟨k + 1, by omega, by go_num, HX.out⟩
        case measure => simp [intOf]; omega
    · have hx' : x ∉ l := by rwa [List.take_of_length_le (by omega)] at hx
      have HI := Lib.hid (idxL_no hx')
      obtain rfl : k = n := by omega
      clear hx hx' hA
      go_wp2
      go_ret
      exact ⟨ret_int (by rw [HI.out]), rfl⟩
theorem contains_any (A : Option Addr) (n c : Nat) (l : List Int) (hn : l.length = n) (x : Int) (w : World) (hA : Row 1 (rInt .i64) w A l) :
    Calls Try.prog 26 #[.slice A n c, .int .i64 x] w fun e w' => e = .returned (.bool (decide (x ∈ l))) ∧ w = w' := by
  have HI : Hid (decide (0 ≤ idxL l x) = decide (x ∈ l)) := by
    show _ = _
    by_cases h : x ∈ l
    · simp [idxL, h]
    · simp [idxL, h]
  go_enter Try.func26, Try.ntmps26
  go_wp2_with (go_at_call 27; ((with_reducible refine (index_any _ _ _ l hn _ _ hA).mono ?_); rintro e w1 ⟨rfl, rfl⟩))
  go_ret
  exact ⟨by first | rfl | (show Ending.returned (.bool _) = _; rfl) | (simp; done) | (simp [HI.out]), rfl⟩
end Go.Proofs.Ytjlohcacpjpdbaa.Bal
