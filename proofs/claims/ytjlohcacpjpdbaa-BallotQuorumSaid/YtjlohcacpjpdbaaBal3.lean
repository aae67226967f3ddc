/- Whether more than half, or all, of a configuration are there: contracts of Enough and All. -/
import Derived.Test.YtjlohcacpjpdbaaBal2
set_option linter.unusedVariables false
set_option linter.unusedSimpArgs false
namespace Go.Proofs.Ytjlohcacpjpdbaa.Bal
open Go.RowKit
open Go.Proofs.Ytjlohcacpjpdbaa Go.Proofs.Ytjlohcacpjpdbaa.Base Go.Proofs.Ytjlohcacpjpdbaa.Read
def enoughB (l who : List Int) : Bool := decide (quorumN (l.length : Int) ≤ (cntL l who : Int))
def allB (l who : List Int) : Bool := decide (0 < l.length) && decide (cntL l who = l.length)
/-- A configuration that is boxed in block B of the world. -/
def CfgAt (w : World) (B : Nat) (ep : Int) (A : Option Addr) (n c : Nat) (w' : World) : Prop :=
  w'.cell? ⟨B, 0, none⟩ = some (.int .i64 ep) ∧ w'.cell? ⟨B, 1, none⟩ = some (.slice A n c) ∧ B < w'.heap.size ∧ Below w.heap.size w w'
theorem CfgAt.keep {w : World} {B : Nat} {ep : Int} {A : Option Addr} {n c : Nat} {w1 w2 : World} (h : CfgAt w B ep A n c w1) (hb : Below w1.heap.size w1 w2) : CfgAt w B ep A n c w2 :=
  ⟨by rw [hb.cell h.2.2.1]; exact h.1, by rw [hb.cell h.2.2.1]; exact h.2.1, Nat.lt_of_lt_of_le h.2.2.1 hb.size, below_more h.2.2.2 hb⟩
theorem CfgAt.bel {w : World} {B : Nat} {ep : Int} {A : Option Addr} {n c : Nat} {w1 : World} (h : CfgAt w B ep A n c w1) : Below w.heap.size w w1 := h.2.2.2
theorem CfgAt.drew {w : World} {B : Nat} {ep : Int} {A : Option Addr} {n c : Nat} {w1 : World} (h : CfgAt w B ep A n c w1) : CfgAt w B ep A n c w1.drew := ⟨h.1, h.2.1, h.2.2.1, h.2.2.2.drew⟩
theorem CfgAt.start (w : World) (ep : Int) (A : Option Addr) (n c : Nat) (t : TypeId) : CfgAt w w.heap.size ep A n c (w.alloc (.cells #[.int .i64 ep, .slice A n c] t)) :=
  ⟨by rw [World.cell?_alloc_at _ _ _ _ rfl]; rfl, by rw [World.cell?_alloc_at _ _ _ _ rfl]; rfl, by simp, below_al' _ _⟩
set_option maxRecDepth 100000 in
theorem enough_any (ep : Int) (A : Option Addr) (n c : Nat) (l : List Int) (hn : l.length = n) (B : Option Addr) (m d : Nat) (who : List Int) (hm : who.length = m) (w : World) (hA : Row 1 (rInt .i64) w A l) (hB : Row 1 (rInt .i64) w B who) (hs : n ≤ 1000000) :
    Calls Try.prog 21 #[.agg #[.int .i64 ep, .slice A n c], .slice B m d] w fun e w' => e = .returned (.bool (enoughB l who)) ∧ Below w.heap.size w w' := by
  have hS0 := CfgAt.start w ep A n c 35
  have HE : Hid (enoughB l who = decide (quorumN (n : Int) ≤ (cntL l who : Int))) := by show _ = _; rw [enoughB, hn]
  have HS := Lib.hid hs; clear hs
  go_enter Try.func21, Try.ntmps21
  go_wp2
  generalize w.alloc (.cells #[.int .i64 ep, .slice A n c] 35) = W at hS0
  have hS1 := hS0.drew; clear hS0
  refine Reg.wp_region_ord [(false, 0), (false, 1), (false, 3), (false, 4), (false, 5), (true, 2), (true, 6), (false, 7), (false, 8)] (CfgAt w w.heap.size ep A n c) (by kernel_rfl) (by kernel_rfl) (fun d _ _ _ _ h => by cases d <;> exact h) hS1 ?_
  repeat (refine Reg.ord_quiet rfl rfl ?_; apply Exists.intro; refine ⟨fun w' hS => ?_, fun K hK => ?_⟩; (first | (obtain ⟨h1, h2, h3, h4⟩ := hS; go_simp; rfl) | rfl); go_simp; refine hK _ ?_; clear hK K)
  refine Reg.ord_alone rfl rfl (fun K hK => ?_); go_simp
  ((with_reducible refine (here_any _ _ _ _ l hn _ _ _ who hm _ (hA.below (stays_int _) hS1.bel) (hB.below (stays_int _) hS1.bel)).mono ?_); rintro e w1 ⟨rfl, hb1⟩)
  have hS2 := hS1.keep hb1
  refine hK _ _ hS2 ?_; clear hK K
  refine Reg.ord_alone rfl rfl (fun K hK => ?_); go_simp
  ((with_reducible refine (quorum_any _ (by have := HS.out; omega) _).mono ?_); rintro e w2 ⟨rfl, rfl⟩)
  refine hK _ _ hS2 ?_; clear hK K
  repeat (refine Reg.ord_quiet rfl rfl ?_; apply Exists.intro; refine ⟨fun w' hS => ?_, fun K hK => ?_⟩; (first | (obtain ⟨h1, h2, h3, h4⟩ := hS; go_simp; rfl) | rfl); go_simp; refine hK _ ?_; clear hK K)
  refine Reg.ord_nil ?_
  go_wp2_with fail
  go_ret
  exact ⟨(by first | rfl | (rw [HE.out]; first | done | rfl) | (simp [HE.out]; done)), hS2.bel⟩
theorem allB_eq (l who : List Int) (n : Nat) (hn : l.length = n) : allB l who = (decide (0 < n) && decide (cntL l who = n)) := by subst hn; rfl
set_option maxRecDepth 100000 in
theorem all_any (ep : Int) (A : Option Addr) (n c : Nat) (l : List Int) (hn : l.length = n) (B : Option Addr) (m d : Nat) (who : List Int) (hm : who.length = m) (w : World) (hA : Row 1 (rInt .i64) w A l) (hB : Row 1 (rInt .i64) w B who) :
    Calls Try.prog 22 #[.agg #[.int .i64 ep, .slice A n c], .slice B m d] w fun e w' => e = .returned (.bool (allB l who)) ∧ Below w.heap.size w w' := by
  have hS0 := CfgAt.start w ep A n c 35
  have HE := Lib.hid (allB_eq l who n hn)
  by_cases hz : 0 < n
  · have hd : decide (0 < n) = true := by simpa using hz
    have HZ := Lib.hid hz; clear hz
    go_enter Try.func22, Try.ntmps22
    go_wp2
    generalize w.alloc (.cells #[.int .i64 ep, .slice A n c] 35) = W at hS0
    have hS1 := hS0.drew; clear hS0
    refine Reg.wp_region_ord [(false, 0), (false, 1), (false, 2), (false, 3), (false, 4), (false, 5), (false, 6), (false, 8), (false, 9), (false, 10), (true, 7), (false, 11), (false, 12), (false, 13)] (CfgAt w w.heap.size ep A n c) (by kernel_rfl) (by kernel_rfl) (fun d _ _ _ _ h => by cases d <;> exact h) hS1 ?_
    repeat (refine Reg.ord_quiet rfl rfl ?_; apply Exists.intro; refine ⟨fun w' hS => ?_, fun K hK => ?_⟩; (first | (obtain ⟨h1, h2, h3, h4⟩ := hS; go_simp; rfl) | rfl); go_simp; refine hK _ ?_; clear hK K)
    refine Reg.ord_alone rfl rfl (fun K hK => ?_); go_simp
    ((with_reducible refine (here_any _ _ _ _ l hn _ _ _ who hm _ (hA.below (stays_int _) hS1.bel) (hB.below (stays_int _) hS1.bel)).mono ?_); rintro e w1 ⟨rfl, hb1⟩)
    have hS2 := hS1.keep hb1
    refine hK _ _ hS2 ?_; clear hK K
    repeat (refine Reg.ord_quiet rfl rfl ?_; apply Exists.intro; refine ⟨fun w' hS => ?_, fun K hK => ?_⟩; (first | (obtain ⟨h1, h2, h3, h4⟩ := hS; go_simp; rfl) | rfl); go_simp; refine hK _ ?_; clear hK K)
    refine Reg.ord_nil ?_
    go_wp2_with fail
    go_ret
    refine ⟨ret_bool ?_, hS2.bel⟩
    rw [HE.out]
    simp [HZ.out]
    omega
  · have hd : decide (0 < n) = false := by simpa using hz
    have HZ := Lib.hid hz; clear hz
    go_enter Try.func22, Try.ntmps22
    go_wp2
    generalize w.alloc (.cells #[.int .i64 ep, .slice A n c] 35) = W at hS0
    have hS1 := hS0.drew; clear hS0
    refine Reg.wp_region_ord [(false, 0), (false, 1), (false, 2), (false, 3), (false, 4), (false, 5), (false, 6), (false, 8), (false, 9), (false, 10), (true, 7), (false, 11), (false, 12), (false, 13)] (CfgAt w w.heap.size ep A n c) (by kernel_rfl) (by kernel_rfl) (fun d _ _ _ _ h => by cases d <;> exact h) hS1 ?_
    repeat (first | (refine Reg.ord_skip rfl rfl (fun K hK => ?_); go_simp; refine hK _ ?_; clear hK K) | (refine Reg.ord_quiet rfl rfl ?_; apply Exists.intro; refine ⟨fun w' hS => ?_, fun K hK => ?_⟩; (first | (obtain ⟨h1, h2, h3, h4⟩ := hS; go_simp; rfl) | rfl); go_simp; refine hK _ ?_; clear hK K))
    refine Reg.ord_nil ?_
    go_wp2_with fail
    go_ret
    refine ⟨ret_bool ?_, hS1.bel⟩
    rw [HE.out]
    simp [HZ.out]
end Go.Proofs.Ytjlohcacpjpdbaa.Bal
