/- Which ballot is the lesser, the greater, the first, the next one, and whether it may be, is just what the document says: the walk of the law. -/
import Derived.Test.YtjlohcacpjpdbaaBalW
set_option linter.unusedVariables false
set_option linter.unusedSimpArgs false
namespace Go.Proofs.Ytjlohcacpjpdbaa.Bal
open Go.RowKit Go.WideShapes
open Go.Proofs.Ytjlohcacpjpdbaa Go.Proofs.Ytjlohcacpjpdbaa.Base Go.Proofs.Ytjlohcacpjpdbaa.Read
/-! How ballots, instances and configurations come in. -/
theorem wrap64_eq (n : Int) : wrap64 n = IntKind.i64.wrap n := by rw [IntKind.wrap_i64, wrap64]
def rBal : Rel (Int × Int) := rAp 1 1 (rAp 0 1 (rPure 2 fun a b => (a, b)) (rInt .i64)) (rInt .i64)
theorem opens_bal : Opens Try.prog 23 rBal :=
  opens_ap Try.underlying23 1 _ rfl rfl (by kernel_rfl) (opens_ap Try.underlying23 0 _ rfl rfl (by kernel_rfl) (opens_pure Try.underlying23 (by kernel_rfl) _) (opens_int Try.underlying3)) (opens_int Try.underlying3)
def rId : Rel (Int × Int × Int) := rAp 2 1 (rAp 1 1 (rAp 0 1 (rPure 3 fun a b c => (a, b, c)) (rInt .i64)) (rInt .i64)) (rInt .i64)
theorem opens_id : Opens Try.prog 25 rId :=
  opens_ap Try.underlying25 2 _ rfl rfl (by kernel_rfl) (opens_ap Try.underlying25 1 _ rfl rfl (by kernel_rfl) (opens_ap Try.underlying25 0 _ rfl rfl (by kernel_rfl) (opens_pure Try.underlying25 (by kernel_rfl) _) (opens_int Try.underlying3)) (opens_int Try.underlying3)) (opens_int Try.underlying3)
def rCfg : Rel (Int × List Int) := rAp 1 1 (rAp 0 1 (rPure 2 fun a b => (a, b)) (rInt .i64)) (rSl 1 (rInt .i64))
theorem opens_ints : Opens Try.prog 33 (rSl 1 (rInt .i64)) := opens_sl Try.underlying33 (by kernel_rfl) (by decide) (opens_int Try.underlying3)
theorem opens_cfg : Opens Try.prog 35 rCfg :=
  opens_ap Try.underlying35 1 _ rfl rfl (by kernel_rfl) (opens_ap Try.underlying35 0 _ rfl rfl (by kernel_rfl) (opens_pure Try.underlying35 (by kernel_rfl) _) (opens_int Try.underlying3)) opens_ints
theorem list1 {l : List Value} (h : l.length = 2) : ∃ a b, l = [a, b] := by
  match l, h with
  | [a, b], _ => exact ⟨a, b, rfl⟩
theorem list3 {l : List Value} (h : l.length = 3) : ∃ a b c, l = [a, b, c] := by
  match l, h with
  | [a, b, c], _ => exact ⟨a, b, c, rfl⟩
section
variable {H : Type} {enc : TypeId × Value → H} {w : World} {v : Value} {d : DataW H} {p : List MemPlace} {r : Reach} {b0 : Nat}
def vBal (x : Int × Int) : Value := .agg #[.int .i64 x.1, .int .i64 x.2]
theorem open_api_Ballot (hv : Value.okWide Try.prog w r b0 23 v) (h : DataW.Trod enc Try.prog w 0 (fun _ => true) true 23 v d p) : ∃ x, v = vBal x ∧ True := by
  obtain ⟨cs, x, rfl, f1, b, rfl, ⟨f0, a, rfl, ⟨hl, rfl⟩, ha, _⟩, hb, _⟩ := open_stv Try.underlying23 opens_bal hv h
  obtain ⟨c0, c1, hc⟩ := list1 hl
  rw [hc] at ha hb
  simp at ha hb
  refine ⟨(a, b), ?_, trivial⟩
  subst ha hb
  simp [vBal, ← Array.toList_inj, hc]
def vId (x : Int × Int × Int) : Value := .agg #[.int .i64 x.1, .int .i64 x.2.1, .int .i64 x.2.2]
theorem open_api_ID (hv : Value.okWide Try.prog w r b0 25 v) (h : DataW.Trod enc Try.prog w 0 (fun _ => true) true 25 v d p) : ∃ x, v = vId x ∧ True := by
  obtain ⟨cs, x, rfl, f2, c, rfl, ⟨f1, b, rfl, ⟨f0, a, rfl, ⟨hl, rfl⟩, ha, _⟩, hb, _⟩, hcc, _⟩ := open_stv Try.underlying25 opens_id hv h
  obtain ⟨c0, c1, c2, hc⟩ := list3 hl
  rw [hc] at ha hb hcc
  simp at ha hb hcc
  refine ⟨(a, b, c), ?_, trivial⟩
  subst ha hb hcc
  simp [vId, ← Array.toList_inj, hc]
/-- A slice of whole numbers, as it comes in. -/
structure Ints where
  a : Option Addr
  c : Nat
  l : List Int
def vInts (x : Ints) : Value := .slice x.a x.l.length x.c
def IntsAt (w : World) (x : Ints) : Prop := Row 1 (rInt .i64) w x.a x.l
theorem open_Sl_int (hv : Value.okWide Try.prog w r b0 33 v) (h : DataW.Trod enc Try.prog w 0 (fun _ => true) true 33 v d p) : ∃ x, v = vInts x ∧ IntsAt w x := by
  obtain ⟨A, cap, l, rfl, hr⟩ := open_slv Try.underlying33 opens_ints hv h
  exact ⟨⟨A, cap, l⟩, rfl, hr⟩
def vCfg (x : Int × Ints) : Value := .agg #[.int .i64 x.1, .slice x.2.a x.2.l.length x.2.c]
theorem open_api_Config (hv : Value.okWide Try.prog w r b0 35 v) (h : DataW.Trod enc Try.prog w 0 (fun _ => true) true 35 v d p) : ∃ x, v = vCfg x ∧ IntsAt w x.2 := by
  obtain ⟨cs, x, rfl, f1, l, rfl, ⟨f0, a, rfl, ⟨hl, rfl⟩, ha, _⟩, A, cap, hb, hr⟩ := open_stv Try.underlying35 opens_cfg hv h
  obtain ⟨c0, c1, hc⟩ := list1 hl
  rw [hc] at ha hb
  simp at ha hb
  refine ⟨(a, ⟨A, cap, l⟩), ?_, hr⟩
  subst ha hb
  simp [vCfg, ← Array.toList_inj, hc]
end
set_option maxRecDepth 100000 in
set_option maxHeartbeats 2000000 in
theorem walk_BallotTells (x0 : Int × Int) (_f0 : True) (x1 : Int × Int) (_f1 : True) (x2 : Int × Int × Int) (_f2 : True) (a3 : Int) (_w3 : (Lit.int .i64 a3).wf = true) (w : World) :
    Calls Try.prog 3 #[vBal x0, vBal x1, vId x2, .int .i64 a3] w fun e w' => e = .returned (.bool true) ∧ Below w.heap.size w w' := by
  obtain ⟨n, d⟩ := x0
  obtain ⟨m, e⟩ := x1
  obtain ⟨i, j, k⟩ := x2
  clear _w3 _f0 _f1 _f2
  show Calls Try.prog 3 #[.agg #[.int .i64 n, .int .i64 d], .agg #[.int .i64 m, .int .i64 e], .agg #[.int .i64 i, .int .i64 j, .int .i64 k], .int .i64 a3] w _
  go_enter Try.func3, Try.ntmps3
  go_wp2_with fail
  ((with_reducible refine (works_any _).mono ?_); rintro e1 w1 ⟨rfl, hb1⟩)
  go_wp2_with fail
  have hc0 : Reg.CellsAt [(⟨w.heap.size, 0, none⟩, .int .i64 n), (⟨w.heap.size, 1, none⟩, .int .i64 d), (⟨w.heap.size + 1, 0, none⟩, .int .i64 m), (⟨w.heap.size + 1, 1, none⟩, .int .i64 e), (⟨w.heap.size + 1 + 1, 0, none⟩, .int .i64 i), (⟨w.heap.size + 1 + 1, 1, none⟩, .int .i64 j), (⟨w.heap.size + 1 + 1, 2, none⟩, .int .i64 k)] (((w.alloc (.cells #[.int .i64 n, .int .i64 d] 23)).alloc (.cells #[.int .i64 m, .int .i64 e] 23)).alloc (.cells #[.int .i64 i, .int .i64 j, .int .i64 k] 25)) := by
    simp [Reg.CellsAt, go_sem]
  have hc1 := hc0.keep hb1
  have hB : Below w.heap.size w w1 := below_more (by repeat (first | exact Below.refl _ _ | exact below_al' _ _ | apply below_al | apply Below.drew)) hb1
  clear hc0 hb1
  have hS1 := Reg.Held.start hc1; clear hc1
  have hwr : IntKind.i64.wrap (n + 1) = wrap64 (n + 1) := (wrap64_eq (n + 1)).symm
  refine Reg.wp_region_ord [(false, 0), (false, 1), (false, 2), (false, 3), (false, 5), (false, 6), (true, 4), (true, 7), (false, 8), (false, 9), (false, 10), (false, 11), (false, 12), (false, 14), (false, 15), (true, 13), (true, 16), (false, 17), (false, 18), (false, 19), (false, 20), (false, 22), (false, 23), (false, 24), (true, 21), (false, 25), (false, 26), (false, 27), (false, 28), (false, 29), (false, 31), (false, 32), (false, 33), (false, 34), (false, 35), (true, 30), (false, 36), (false, 37), (false, 38), (false, 39), (false, 41), (true, 40), (true, 42), (false, 43), (false, 44), (false, 45)] (Reg.Held w1 _) (by kernel_rfl) (by kernel_rfl) (fun d _ _ _ _ h => by cases d <;> exact h) hS1 ?_
  generalize w1.drew = W0 at hS1
  repeat (refine Reg.ord_quiet rfl rfl ?_; apply Exists.intro; refine ⟨fun w' hS => ?_, fun K hK => ?_⟩; (first | (obtain ⟨_, hS2⟩ := hS; simp only [Reg.CellsAt, and_true] at hS2; go_simp; rfl) | (go_simp; rfl) | rfl); go_simp; refine hK _ ?_; clear hK K)
  refine Reg.ord_alone rfl rfl (fun K hK => ?_); go_simp
  ((with_reducible refine (less_any _ _ _ _ _).mono ?_); rintro e2 w2 ⟨rfl, hb2⟩)
  have hS2 := hS1.keep hb2; clear hS1 hb2
  refine hK _ _ hS2 ?_; clear hK K
  repeat (refine Reg.ord_quiet rfl rfl ?_; apply Exists.intro; refine ⟨fun w' hS => ?_, fun K hK => ?_⟩; (first | (obtain ⟨_, hS2⟩ := hS; simp only [Reg.CellsAt, and_true] at hS2; go_simp; rfl) | (go_simp; rfl) | rfl); go_simp; refine hK _ ?_; clear hK K)
  refine Reg.ord_alone rfl rfl (fun K hK => ?_); go_simp
  ((with_reducible refine (rless_any _ _ _ _ _).mono ?_); rintro e2 w3 ⟨rfl, hb3⟩)
  have hS3 := hS2.keep hb3; clear hS2 hb3
  refine hK _ _ hS3 ?_; clear hK K
  repeat (refine Reg.ord_quiet rfl rfl ?_; apply Exists.intro; refine ⟨fun w' hS => ?_, fun K hK => ?_⟩; (first | (obtain ⟨_, hS2⟩ := hS; simp only [Reg.CellsAt, and_true] at hS2; go_simp; rfl) | (go_simp; rfl) | rfl); go_simp; refine hK _ ?_; clear hK K)
  refine Reg.ord_alone rfl rfl (fun K hK => ?_); go_simp
  ((with_reducible refine (most_any _ _ _ _ _).mono ?_); rintro e2 w4 ⟨rfl, hb4⟩)
  have hS4 := hS3.keep hb4; clear hS3 hb4
  refine hK _ _ hS4 ?_; clear hK K
  repeat (refine Reg.ord_quiet rfl rfl ?_; apply Exists.intro; refine ⟨fun w' hS => ?_, fun K hK => ?_⟩; (first | (obtain ⟨_, hS2⟩ := hS; simp only [Reg.CellsAt, and_true] at hS2; go_simp; rfl) | (go_simp; rfl) | rfl); go_simp; refine hK _ ?_; clear hK K)
  refine Reg.ord_alone rfl rfl (fun K hK => ?_); go_simp
  ((with_reducible refine (rmost_any _ _ _ _ _).mono ?_); rintro e2 w5 ⟨rfl, hb5⟩)
  have hS5 := hS4.keep hb5; clear hS4 hb5
  refine hK _ _ hS5 ?_; clear hK K
  repeat (refine Reg.ord_quiet rfl rfl ?_; apply Exists.intro; refine ⟨fun w' hS => ?_, fun K hK => ?_⟩; (first | (obtain ⟨_, hS2⟩ := hS; simp only [Reg.CellsAt, and_true] at hS2; go_simp; rfl) | (go_simp; rfl) | rfl); go_simp; refine hK _ ?_; clear hK K)
  refine Reg.ord_alone rfl rfl (fun K hK => ?_); go_simp
  ((with_reducible refine (first_any _ _ _ _).mono ?_); rintro e2 w6 ⟨rfl, hb6⟩)
  have hS6 := hS5.keep hb6; clear hS5 hb6
  refine hK _ _ hS6 ?_; clear hK K
  repeat (refine Reg.ord_quiet rfl rfl ?_; apply Exists.intro; refine ⟨fun w' hS => ?_, fun K hK => ?_⟩; (first | (obtain ⟨_, hS2⟩ := hS; simp only [Reg.CellsAt, and_true] at hS2; go_simp; rfl) | (go_simp; rfl) | rfl); go_simp; refine hK _ ?_; clear hK K)
  refine Reg.ord_alone rfl rfl (fun K hK => ?_); go_simp
  ((with_reducible refine (next_any _ _ _ _).mono ?_); rintro e2 w7 ⟨rfl, hb7⟩)
  have hS7 := hS6.keep hb7; clear hS6 hb7
  refine hK _ _ hS7 ?_; clear hK K
  repeat (refine Reg.ord_quiet rfl rfl ?_; apply Exists.intro; refine ⟨fun w' hS => ?_, fun K hK => ?_⟩; (first | (obtain ⟨_, hS2⟩ := hS; simp only [Reg.CellsAt, and_true] at hS2; go_simp; rfl) | (go_simp; rfl) | rfl); go_simp; refine hK _ ?_; clear hK K)
  refine Reg.ord_alone rfl rfl (fun K hK => ?_); go_simp
  ((with_reducible refine (valid_any _ _ _).mono ?_); rintro e2 w8 ⟨rfl, hb8⟩)
  have hS8 := hS7.keep hb8; clear hS7 hb8
  refine hK _ _ hS8 ?_; clear hK K
  repeat (refine Reg.ord_quiet rfl rfl ?_; apply Exists.intro; refine ⟨fun w' hS => ?_, fun K hK => ?_⟩; (first | (obtain ⟨_, hS2⟩ := hS; simp only [Reg.CellsAt, and_true] at hS2; go_simp; rfl) | (go_simp; rfl) | rfl); go_simp; refine hK _ ?_; clear hK K)
  refine Reg.ord_alone rfl rfl (fun K hK => ?_); go_simp
  ((with_reducible refine (rvalid_any _ _ _).mono ?_); rintro e2 w9 ⟨rfl, hb9⟩)
  have hS9 := hS8.keep hb9; clear hS8 hb9
  refine hK _ _ hS9 ?_; clear hK K
  repeat (refine Reg.ord_quiet rfl rfl ?_; apply Exists.intro; refine ⟨fun w' hS => ?_, fun K hK => ?_⟩; (first | (obtain ⟨_, hS2⟩ := hS; simp only [Reg.CellsAt, and_true] at hS2; go_simp; rfl) | (go_simp; rfl) | rfl); go_simp; refine hK _ ?_; clear hK K)
  refine Reg.ord_nil ?_
  go_wp2_with fail
  go_ret
  exact ⟨by simp, hS9.from hB⟩
end Go.Proofs.Ytjlohcacpjpdbaa.Bal
