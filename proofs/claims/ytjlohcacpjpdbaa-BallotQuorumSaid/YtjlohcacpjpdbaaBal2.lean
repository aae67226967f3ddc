/- How many of a configuration are there: contracts of here, Enough, All, and of the reference's In and Count. -/
import Derived.Test.YtjlohcacpjpdbaaBal
set_option linter.unusedVariables false
set_option linter.unusedSimpArgs false
namespace Go.Proofs.Ytjlohcacpjpdbaa.Bal
open Go.RowKit
open Go.Proofs.Ytjlohcacpjpdbaa Go.Proofs.Ytjlohcacpjpdbaa.Base Go.Proofs.Ytjlohcacpjpdbaa.Read
def cntL (l who : List Int) : Nat := (l.filter fun x => decide (x ∈ who)).length
theorem cntL_le (l who : List Int) : cntL l who ≤ l.length := List.length_filter_le _ _
theorem cntL_snoc (l who : List Int) (k : Nat) (h : k < l.length) : cntL (l.take (k + 1)) who = cntL (l.take k) who + if l[k] ∈ who then 1 else 0 := by
  unfold cntL
  rw [List.take_succ_eq_append_getElem h, List.filter_append]
  by_cases hx : l[k] ∈ who <;> simp [hx]
set_option maxRecDepth 100000 in
theorem in_any (A : Option Addr) (n c : Nat) (l : List Int) (hn : l.length = n) (x : Int) (w : World) (hA : Row 1 (rInt .i64) w A l) :
    Calls Try.prog 23 #[.slice A n c, .int .i64 x] w fun e w' => e = .returned (.bool (decide (x ∈ l))) ∧ w = w' := by
  have hnl : n ≤ 9223372036854775807 := by have := hA.1; unfold maxLen at this; omega
  go_enter Try.func23, Try.ntmps23
  go_wp2
  go_loop [5, 6, 7, 8, 9, 10, 11, 12, 13, 14, 15, 16, 17] (fun i _ _ _ _ _ _ _ _ _ _ _ _ => ∃ k : Nat, k ≤ n ∧ i = .int .i64 k ∧ x ∉ l.take k) (fun i _ _ _ _ _ _ _ _ _ _ _ _ => n - (intOf i).toNat)
  case atStart => exact ⟨0, by omega, rfl, by simp⟩
  case round =>
    obtain ⟨k, hk, rfl, hx⟩ := hrel
    by_cases hlt : k < n
    · have hkl : k < l.length := by omega
      obtain ⟨b, off, rfl, hc⟩ := hA.ints (by omega)
      have hck := hc k hkl
      clear hc hA
      by_cases hx2 : l[k] = x
      · have HI : Hid (decide (x ∈ l) = true) := by show _ = _; rw [← hx2]; simp
        have hb : (l[k] == x) = true := by simp [hx2]
        clear hx2 hx
        go_wp2
        go_ret
        exact ⟨(by first | rfl | (rw [HI.out]; first | done | rfl) | (simp [HI.out]; done)), rfl⟩
      · have HX := Lib.hid (not_take_succ hkl hx2 hx)
        have hb : (l[k] == x) = false := by simpa using hx2
        clear hx2 hx
        go_wp2
        go_round
        case rel => exact ⟨k + 1, by omega, by go_num, HX.out⟩
        case measure => simp [intOf]; omega
    · have hx' : x ∉ l := by rwa [List.take_of_length_le (by omega)] at hx
      have HI : Hid (decide (x ∈ l) = false) := by show _ = _; simpa using hx'
      obtain rfl : k = n := by omega
      clear hx hx' hA
      go_wp2
      go_ret
      exact ⟨(by first | rfl | (rw [HI.out]; first | done | rfl) | (simp [HI.out]; done)), rfl⟩
set_option maxRecDepth 100000 in
theorem here_any (ep : Int) (A : Option Addr) (n c : Nat) (l : List Int) (hn : l.length = n) (B : Option Addr) (m d : Nat) (who : List Int) (hm : who.length = m) (w : World) (hA : Row 1 (rInt .i64) w A l) (hB : Row 1 (rInt .i64) w B who) :
    Calls Try.prog 25 #[.agg #[.int .i64 ep, .slice A n c], .slice B m d] w fun e w' => e = .returned (.int .i64 (cntL l who)) ∧ Below w.heap.size w w' := by
  have hnl : n ≤ 9223372036854775807 := by have := hA.1; unfold maxLen at this; omega
  have hA1 := hA.below (stays_int _) (below_al' w (.cells #[.int .i64 ep, .slice A n c] 35))
  have hB1 := hB.below (stays_int _) (below_al' w (.cells #[.int .i64 ep, .slice A n c] 35))
  have hbel := below_al' w (.cells #[.int .i64 ep, .slice A n c] 35)
  go_enter Try.func25, Try.ntmps25
  go_wp2
  generalize w.alloc (.cells #[.int .i64 ep, .slice A n c] 35) = W at hA1 hB1 hbel
  go_loop [5, 7, 11, 12, 13, 14, 15, 16, 17, 18, 19, 20] (fun x _ i _ _ _ _ _ _ _ _ _ => ∃ k : Nat, k ≤ n ∧ i = .int .i64 k ∧ x = .int .i64 (cntL (l.take k) who)) (fun _ _ i _ _ _ _ _ _ _ _ _ => n - (intOf i).toNat)
  case atStart => exact ⟨0, by omega, rfl, rfl⟩
  case round =>
    obtain ⟨k, hk, rfl, rfl⟩ := hrel
    have hle : cntL (l.take k) who ≤ k := Nat.le_trans (cntL_le _ _) (List.length_take_le _ _)
    by_cases hlt : k < n
    · have hkl : k < l.length := by omega
      obtain ⟨b, off, rfl, hc⟩ := hA1.ints (by omega)
      have hck := hc k hkl
      have HS := Lib.hid (cntL_snoc l who k hkl)
      clear hc hA hA1
      by_cases hx : l[k] ∈ who
      · have hd : Hid (decide (l[k] ∈ who) = true) := by show _ = _; simpa using hx
        have HX := Lib.hid hx; clear hx
        go_wp2_with (go_at_call 26; ((with_reducible refine (contains_any _ _ _ who hm _ _ hB1).mono ?_); rintro e w1 ⟨rfl, rfl⟩); rw [hd.out])
        go_round
        case rel => exact ⟨k + 1, by omega, by go_num, by rw [HS.out, if_pos HX.out]; go_num⟩
        case measure => simp [intOf]; omega
      · have hd : Hid (decide (l[k] ∈ who) = false) := by show _ = _; simpa using hx
        have HX := Lib.hid hx; clear hx
        go_wp2_with (go_at_call 26; ((with_reducible refine (contains_any _ _ _ who hm _ _ hB1).mono ?_); rintro e w1 ⟨rfl, rfl⟩); rw [hd.out])
        go_round
        case rel => exact ⟨k + 1, by omega, by go_num, by rw [HS.out, if_neg HX.out]; rfl⟩
        case measure => simp [intOf]; omega
    · obtain rfl : k = n := by omega
      have HT : Hid (l.take k = l) := by show _ = _; exact List.take_of_length_le (by omega)
      clear hA hA1
      go_wp2
      go_ret
      exact ⟨ret_int (by rw [HT.out]), hbel⟩
set_option maxRecDepth 100000 in
theorem count_any (ep : Int) (A : Option Addr) (n c : Nat) (l : List Int) (hn : l.length = n) (B : Option Addr) (m d : Nat) (who : List Int) (hm : who.length = m) (w : World) (hA : Row 1 (rInt .i64) w A l) (hB : Row 1 (rInt .i64) w B who) :
    Calls Try.prog 18 #[.agg #[.int .i64 ep, .slice A n c], .slice B m d] w fun e w' => e = .returned (.int .i64 (cntL l who)) ∧ Below w.heap.size w w' := by
  have hnl : n ≤ 9223372036854775807 := by have := hA.1; unfold maxLen at this; omega
  have hA1 := hA.below (stays_int _) (below_al' w (.cells #[.int .i64 ep, .slice A n c] 35))
  have hB1 := hB.below (stays_int _) (below_al' w (.cells #[.int .i64 ep, .slice A n c] 35))
  have hbel := below_al' w (.cells #[.int .i64 ep, .slice A n c] 35)
  go_enter Try.func18, Try.ntmps18
  go_wp2
  have hcfg : (w.alloc (.cells #[.int .i64 ep, .slice A n c] 35)).cell? ⟨w.heap.size, 1, none⟩ = some (.slice A n c) := by rw [World.cell?_alloc_at _ _ _ _ rfl]; rfl
  generalize w.alloc (.cells #[.int .i64 ep, .slice A n c] 35) = W at hA1 hB1 hbel hcfg
  go_loop [5, 6, 7, 8, 9, 10, 11, 12, 13, 14, 15, 16, 17, 18, 19, 20, 21, 22] (fun x i _ _ _ _ _ _ _ _ _ _ _ _ _ _ _ _ => ∃ k : Nat, k ≤ n ∧ i = .int .i64 k ∧ x = .int .i64 (cntL (l.take k) who)) (fun _ i _ _ _ _ _ _ _ _ _ _ _ _ _ _ _ _ => n - (intOf i).toNat)
  case atStart => exact ⟨0, by omega, rfl, rfl⟩
  case round =>
    obtain ⟨k, hk, rfl, rfl⟩ := hrel
    have hle : cntL (l.take k) who ≤ k := Nat.le_trans (cntL_le _ _) (List.length_take_le _ _)
    by_cases hlt : k < n
    · have hkl : k < l.length := by omega
      obtain ⟨b, off, rfl, hc⟩ := hA1.ints (by omega)
      have hck := hc k hkl
      have HS := Lib.hid (cntL_snoc l who k hkl)
      clear hc hA hA1
      by_cases hx : l[k] ∈ who
      · have hd : Hid (decide (l[k] ∈ who) = true) := by show _ = _; simpa using hx
        have HX := Lib.hid hx; clear hx
        go_wp2_with (go_at_call 23; ((with_reducible refine (in_any _ _ _ who hm _ _ hB1).mono ?_); rintro e w1 ⟨rfl, rfl⟩); rw [hd.out])
        go_round
        case rel => exact ⟨k + 1, by omega, by go_num, by rw [HS.out, if_pos HX.out]; go_num⟩
        case measure => simp [intOf]; omega
      · have hd : Hid (decide (l[k] ∈ who) = false) := by show _ = _; simpa using hx
        have HX := Lib.hid hx; clear hx
        go_wp2_with (go_at_call 23; ((with_reducible refine (in_any _ _ _ who hm _ _ hB1).mono ?_); rintro e w1 ⟨rfl, rfl⟩); rw [hd.out])
        go_round
        case rel => exact ⟨k + 1, by omega, by go_num, by rw [HS.out, if_neg HX.out]; rfl⟩
        case measure => simp [intOf]; omega
    · obtain rfl : k = n := by omega
      have HT : Hid (l.take k = l) := by show _ = _; exact List.take_of_length_le (by omega)
      clear hA hA1
      go_wp2
      go_ret
      exact ⟨ret_int (by rw [HT.out]), hbel⟩
end Go.Proofs.Ytjlohcacpjpdbaa.Bal
