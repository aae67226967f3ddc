/- Two that are enough have one in common: the walk of the law. -/
import Derived.Test.YtjlohcacpjpdbaaBalEq
set_option linter.unusedVariables false
set_option linter.unusedSimpArgs false
namespace Go.Proofs.Ytjlohcacpjpdbaa.Bal
open Go.RowKit Go.WideShapes
open Go.Proofs.Ytjlohcacpjpdbaa Go.Proofs.Ytjlohcacpjpdbaa.Base Go.Proofs.Ytjlohcacpjpdbaa.Read
theorem cells_cons {l : List (Addr × Value)} {W : World} {a : Addr} {v : Value} (h : W.cell? a = some v) (hl : Reg.CellsAt l W) : Reg.CellsAt ((a, v) :: l) W := ⟨h, hl⟩
theorem cnt_apart (l a b : List Int) (h : ∀ x ∈ l, ¬ (x ∈ a ∧ x ∈ b)) : cntL l a + cntL l b ≤ l.length := by
  induction l with
  | nil => simp [cntL]
  | cons x l ih =>
    have h1 := ih (fun y hy => h y (List.mem_cons_of_mem _ hy))
    have h2 := h x (List.mem_cons_self ..)
    unfold cntL at *
    by_cases ha : x ∈ a <;> by_cases hb : x ∈ b <;> simp [List.filter_cons, ha, hb] at * <;> omega
theorem take_none {l a b : List Int} {k : Nat} (hk : k < l.length) (h : ∀ x ∈ l.take k, ¬ (x ∈ a ∧ x ∈ b)) (hx : ¬ (l[k] ∈ a ∧ l[k] ∈ b)) : ∀ x ∈ l.take (k + 1), ¬ (x ∈ a ∧ x ∈ b) := by
  intro x hm
  rw [List.take_succ_eq_append_getElem hk, List.mem_append, List.mem_singleton] at hm
  rcases hm with hm | rfl
  · exact h x hm
  · exact hx
theorem common (l a b : List Int) (hl : 0 < l.length) (ha : enoughB l a = true) (hb : enoughB l b = true) (h : ∀ x ∈ l, ¬ (x ∈ a ∧ x ∈ b)) : False := by
  have h1 := cnt_apart l a b h
  unfold enoughB quorumN at ha hb
  rw [if_neg (by omega)] at ha hb
  simp only [decide_eq_true_eq] at ha hb
  omega
set_option maxRecDepth 100000 in
set_option maxHeartbeats 2000000 in
theorem walk_BallotCommon {w : World} (x0 : Int × Ints) (f0 : IntsAt w x0.2) (x1 : Ints) (f1 : IntsAt w x1) (x2 : Ints) (f2 : IntsAt w x2) :
    Calls Try.prog 5 #[vCfg x0, vInts x1, vInts x2] w fun e w' => e = .returned (.bool true) ∧ Below w.heap.size w w' := by
  obtain ⟨ep, A, c, l⟩ := x0
  obtain ⟨B, d, wa⟩ := x1
  obtain ⟨C, e, wb⟩ := x2
  obtain ⟨n, hn⟩ : ∃ n, n = l.length := ⟨_, rfl⟩
  obtain ⟨m, hm⟩ : ∃ m, m = wa.length := ⟨_, rfl⟩
  obtain ⟨o, ho⟩ : ∃ o, o = wb.length := ⟨_, rfl⟩
  show Calls Try.prog 5 #[.agg #[.int .i64 ep, .slice A l.length c], .slice B wa.length d, .slice C wb.length e] w _
  rw [← hn, ← hm, ← ho]
  have HN := Lib.hid hn.symm; have HM := Lib.hid hm.symm; have HO := Lib.hid ho.symm
  replace f0 : Row 1 (rInt .i64) w A l := f0
  replace f1 : Row 1 (rInt .i64) w B wa := f1
  replace f2 : Row 1 (rInt .i64) w C wb := f2
  clear hn hm ho
  by_cases h0 : (n : Int) < 1
  · go_enter Try.func5, Try.ntmps5
    go_wp2_with (go_at_call 9; refine (works_any _).mono ?_; rintro e w1 ⟨rfl, hb1⟩; obtain ⟨hcW, hfW⟩ := bcell hb1)
    go_ret
    exact ⟨rfl, below_more (by repeat (first | exact Below.refl _ _ | exact below_al' _ _ | apply below_al | apply Below.drew)) hb1⟩
  have hd0 : decide ((n : Int) < 1) = false := by simpa using h0
  by_cases h1 : (60 : Int) < (n : Int)
  · clear h0
    go_enter Try.func5, Try.ntmps5
    go_wp2_with (go_at_call 9; refine (works_any _).mono ?_; rintro e w1 ⟨rfl, hb1⟩; obtain ⟨hcW, hfW⟩ := bcell hb1)
    go_ret
    exact ⟨rfl, below_more (by repeat (first | exact Below.refl _ _ | exact below_al' _ _ | apply below_al | apply Below.drew)) hb1⟩
  have hd1 : decide ((60 : Int) < (n : Int)) = false := by simpa using h1
  by_cases h2 : (60 : Int) < (m : Int)
  · clear h0 h1
    go_enter Try.func5, Try.ntmps5
    go_wp2_with (go_at_call 9; refine (works_any _).mono ?_; rintro e w1 ⟨rfl, hb1⟩; obtain ⟨hcW, hfW⟩ := bcell hb1)
    go_ret
    exact ⟨rfl, below_more (by repeat (first | exact Below.refl _ _ | exact below_al' _ _ | apply below_al | apply Below.drew)) hb1⟩
  have hd2 : decide ((60 : Int) < (m : Int)) = false := by simpa using h2
  by_cases h3 : (60 : Int) < (o : Int)
  · clear h0 h1 h2
    go_enter Try.func5, Try.ntmps5
    go_wp2_with (go_at_call 9; refine (works_any _).mono ?_; rintro e w1 ⟨rfl, hb1⟩; obtain ⟨hcW, hfW⟩ := bcell hb1)
    go_ret
    exact ⟨rfl, below_more (by repeat (first | exact Below.refl _ _ | exact below_al' _ _ | apply below_al | apply Below.drew)) hb1⟩
  have hd3 : decide ((60 : Int) < (o : Int)) = false := by simpa using h3
  have H0 : Hid (0 < n ∧ n ≤ 60) := by show _ ∧ _; omega
  clear h0 h1 h2 h3
  have hc0 : Reg.CellsAt [(⟨w.heap.size, 0, none⟩, .int .i64 ep), (⟨w.heap.size, 1, none⟩, .slice A n c)] (w.alloc (.cells #[.int .i64 ep, .slice A n c] 35)) := by
    simp [Reg.CellsAt, go_sem]
  go_enter Try.func5, Try.ntmps5
  go_wp2_with (go_at_call 9; refine (works_any _).mono ?_; rintro e w1 ⟨rfl, hb1⟩; obtain ⟨hcW, hfW⟩ := bcell hb1)
  have hc1 := hc0.keep hb1
  have hB1 : Below w.heap.size w w1 := below_more (by repeat (first | exact Below.refl _ _ | exact below_al' _ _ | apply below_al | apply Below.drew)) hb1
  have hS1 : Reg.Held w1 _ w1 := ⟨Below.refl _ _, hc1⟩
  clear hc0 hb1 hc1 hcW hfW
  have hn60 : (n : Int) ≤ 60 := by have := H0.out; omega
  go_loopw [8, 9, 35, 36, 37, 38, 39, 40, 41, 42, 43, 44, 45, 46, 47, 48, 49, 50, 51, 52, 53, 54, 55, 56, 57, 58] (fun s8 _ _ _ _ _ _ _ _ _ _ _ _ _ _ _ _ _ _ _ _ _ _ _ _ _ wr => ∃ i : Nat, i ≤ n ∧ s8 = .int .i64 i ∧ Reg.Held w1 [(⟨w.heap.size, 0, none⟩, .int .i64 ep), (⟨w.heap.size, 1, none⟩, .slice A n c)] wr) (fun s8 _ _ _ _ _ _ _ _ _ _ _ _ _ _ _ _ _ _ _ _ _ _ _ _ _ wr => n - (intOf s8).toNat)
  case atStart => exact ⟨0, by omega, rfl, hS1⟩
  case round =>
    obtain ⟨i, hi, rfl, hS2⟩ := hrel
    clear hS1
    have hx := hS2.2; simp only [Reg.CellsAt, and_true] at hx
    by_cases hlt : i < n
    · have hil : i < l.length := by rw [HN.out]; exact hlt
      have hti : (i : Int) < (n : Int) := by omega
      go_wp2_with fail
      go_loopw [9, 42, 43, 44, 45, 46, 47, 48, 49, 50, 51, 52, 53, 54, 55, 56, 57, 58] (fun s9 _ _ _ _ _ _ _ _ _ _ _ _ _ _ _ _ _ wr => ∃ k : Nat, k ≤ i ∧ s9 = .int .i64 k ∧ Reg.Held w1 [(⟨w.heap.size, 0, none⟩, .int .i64 ep), (⟨w.heap.size, 1, none⟩, .slice A n c)] wr) (fun s9 _ _ _ _ _ _ _ _ _ _ _ _ _ _ _ _ _ wr => i - (intOf s9).toNat)
      case atStart => exact ⟨0, by omega, rfl, hS2⟩
      case round =>
        obtain ⟨k, hk, rfl, hS3⟩ := hrel
        clear hS2 hx
        have hx := hS3.2; simp only [Reg.CellsAt, and_true] at hx
        by_cases hkt : k < i
        · have hkl : k < l.length := by omega
          have hA := f0.below (stays_int _) (hS3.from hB1)
          obtain ⟨b, off, hAe, hc⟩ := hA.ints (by omega)
          have hci := hc i hil
          have hck := hc k hkl
          obtain ⟨y, hy⟩ : ∃ y, y = l[i] := ⟨_, rfl⟩
          obtain ⟨z, hz⟩ : ∃ z, z = l[k] := ⟨_, rfl⟩
          rw [← hy] at hci; rw [← hz] at hck
          have hkk : (k : Int) < (n : Int) := by omega
          have hk0 : (0 : Int) ≤ (k : Int) := by omega
          have hi0 : (0 : Int) ≤ (i : Int) := by omega
          subst hAe
          have hS4 := Reg.Held.start (cells_cons hci (cells_cons hck hS3.2))
          have hS5 : Reg.Held w1 [(⟨w.heap.size, 0, none⟩, .int .i64 ep), (⟨w.heap.size, 1, none⟩, .slice (some ⟨b, off, none⟩) n c)] _ := hS3.keep hS4.1
          clear hc hy hz hA
          go_wp2_with fail
          refine Reg.wp_region_ord [(false, 0), (false, 1), (false, 2), (false, 3), (false, 4), (false, 5), (false, 6), (false, 7), (false, 8), (false, 9), (false, 10)] (Reg.Held _ _) (by kernel_rfl) (by kernel_rfl) (fun d _ _ _ _ h => by cases d <;> exact h) hS4 ?_
          repeat (first | (refine Reg.ord_skip rfl ?_ (fun K hK => ?_); (focus rfl); go_simp; refine hK _ ?_; clear hK K) | (refine Reg.ord_quiet rfl ?_ ?_; (focus rfl); apply Exists.intro; refine ⟨fun w' hS => ?_, fun K hK => ?_⟩; (first | (obtain ⟨_, hS2⟩ := hS; simp only [Reg.CellsAt, and_true] at hS2; go_simp; rfl) | (go_simp; rfl) | rfl); go_simp; refine hK _ ?_; clear hK K))
          refine Reg.ord_nil ?_
          by_cases hyz : y = z
          · have hbz : (y == z) = true := by simp [hyz]
            clear hyz hx hci hck hS4
            go_wp2_with fail
            go_ret
            exact ⟨rfl, hS5.from hB1⟩
          · have hbz : (y == z) = false := by simpa using hyz
            clear hyz hx hci hck hS4
            go_wp2_with fail
            go_roundw
            case rel => exact ⟨k + 1, by omega, by go_num, hS5⟩
            case measure => simp [intOf]; omega
        · obtain rfl : k = i := by omega
          go_wp2_with fail
          go_roundw
          case rel => exact ⟨k + 1, by omega, by go_num, hS3⟩
          case measure => simp [intOf]; omega
    · obtain rfl : i = n := by omega
      go_wp2_with fail
      have hB2 := hS2.from hB1
      ((with_reducible refine (enough_any ep A i c l HN.out B m d wa HM.out _ (f0.below (stays_int _) hB2) (f1.below (stays_int _) hB2) (by have := H0.out; omega)).mono ?_); rintro e2 w2 ⟨rfl, hb2⟩)
      have hS3 := hS2.keep hb2
      have hB3 := hS3.from hB1
      clear hS2 hB2 hx hb2
      cases hea : enoughB l wa
      · have HE := Lib.hid hea; clear hea
        go_wp2_with fail
        go_ret
        exact ⟨rfl, hB3⟩
      have HEA := Lib.hid hea; clear hea
      have hx := hS3.2; simp only [Reg.CellsAt, and_true] at hx
      go_wp2_with fail
      ((with_reducible refine (enough_any ep A i c l HN.out C o e wb HO.out _ (f0.below (stays_int _) hB3) (f2.below (stays_int _) hB3) (by have := H0.out; omega)).mono ?_); rintro e3 w3 ⟨rfl, hb3⟩)
      have hS4 := hS3.keep hb3
      have hB4 := hS4.from hB1
      clear hS3 hB3 hx hb3
      cases heb : enoughB l wb
      · have HE := Lib.hid heb; clear heb
        go_wp2_with fail
        go_ret
        exact ⟨rfl, hB4⟩
      have HEB := Lib.hid heb; clear heb
      have hx := hS4.2; simp only [Reg.CellsAt, and_true] at hx
      have hA4 := f0.below (stays_int _) hB4
      have hB4a := f1.below (stays_int _) hB4
      have hB4b := f2.below (stays_int _) hB4
      go_wp2_with fail
      go_loop [10, 70, 71, 72, 73, 74, 75, 76, 77, 78, 79, 80, 81, 82, 83, 84, 85, 86, 87, 88, 89, 90, 91, 92, 93] (fun s10 _ _ _ _ _ _ _ _ _ _ _ _ _ _ _ _ _ _ _ _ _ _ _ _ => ∃ k : Nat, k ≤ i ∧ s10 = .int .i64 k ∧ ∀ x ∈ l.take k, ¬ (x ∈ wa ∧ x ∈ wb)) (fun s10 _ _ _ _ _ _ _ _ _ _ _ _ _ _ _ _ _ _ _ _ _ _ _ _ => i - (intOf s10).toNat)
      case atStart => exact ⟨0, by omega, rfl, by simp⟩
      case round =>
        obtain ⟨k, hk, rfl, hno⟩ := hrel
        have HNO := Lib.hid hno; clear hno
        by_cases hkt : k < i
        · have hkl : k < l.length := by rw [HN.out]; exact hkt
          obtain ⟨b, off, rfl, hc⟩ := hA4.ints (by omega)
          have hck := hc k hkl
          clear hc
          obtain ⟨y, hy⟩ : ∃ y, y = l[k] := ⟨_, rfl⟩
          rw [← hy] at hck
          have HY := Lib.hid hy; clear hy
          have hki : (k : Int) < (i : Int) := by omega
          go_wp2_with fail
          ((with_reducible refine (in_any B m d wa HM.out y _ hB4a).mono ?_); rintro e4 w4 ⟨rfl, rfl⟩)
          by_cases hya : y ∈ wa
          · have hd : decide (y ∈ wa) = true := by simpa using hya
            have HYA := Lib.hid hya; clear hya
            rw [hd]; clear hd
            go_wp2_with fail
            ((with_reducible refine (in_any C o e wb HO.out y _ hB4b).mono ?_); rintro e5 w5 ⟨rfl, rfl⟩)
            by_cases hyb : y ∈ wb
            · have hd : decide (y ∈ wb) = true := by simpa using hyb
              clear hyb
              rw [hd]; clear hd
              go_wp2_with fail
              go_ret
              exact ⟨rfl, hB4⟩
            · have hd : decide (y ∈ wb) = false := by simpa using hyb
              have HYB := Lib.hid hyb; clear hyb
              rw [hd]; clear hd
              go_wp2_with fail
              go_round
              case rel => exact ⟨k + 1, by omega, by go_num, take_none hkl HNO.out (by rw [← HY.out]; exact fun h => HYB.out h.2)⟩
              case measure => simp [intOf]; omega
          · have hd : decide (y ∈ wa) = false := by simpa using hya
            have HYA := Lib.hid hya; clear hya
            rw [hd]; clear hd
            go_wp2_with fail
            go_round
            case rel => exact ⟨k + 1, by omega, by go_num, take_none hkl HNO.out (by rw [← HY.out]; exact fun h => HYA.out h.1)⟩
            case measure => simp [intOf]; omega
        · exfalso
          have hki : k = i := by omega
          subst hki
          have hno := HNO.out
          rw [List.take_of_length_le (by rw [HN.out]; exact Nat.le_refl _)] at hno
          exact common l wa wb (by rw [HN.out]; exact H0.out.1) HEA.out HEB.out hno
end Go.Proofs.Ytjlohcacpjpdbaa.Bal
