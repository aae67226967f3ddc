/- Disks: what a disk owns; its functions. -/
import Derived.Test.YtfhldddjjbdlbaaK0
import Derived.Test.YtfhldddjjbdlbaaV23
set_option linter.unusedVariables false
set_option linter.unusedSimpArgs false
set_option maxRecDepth 20000
namespace Go.Proofs.Ytfhldddjjbdlbaa.K
open Go Go.Proofs.Ytfhldddjjbdlbaa.V Go.Proofs.Ytfhldddjjbdlbaa.F
attribute [-simp] List.map_take List.map_drop
attribute [local simp] take_map drop_map List.take_take
/-- An object of bytes and one cell more; what it owns. -/
def OwnB (h : AHeap) (F : Nat → Prop) (id : Nat) (l : List UInt8) (c : AV) : Prop :=
  (∀ k, F k → k < h.length) ∧ F id ∧ ∃ t, h[id]? = some (.cells [.list (l.map b8) t, c]) ∧ (t = .full ∨ ∃ j, t = .own j ∧ j ≠ id ∧ F j ∧ h[j]? = some (.tail 5 1))
def Dk (h : AHeap) (F : Nat → Prop) (id : Nat) (l : List UInt8) (s : Nat) : Prop := OwnB h F id l (.int .i64 (s : Nat))
/-- What is not the disk's stays. -/
def Kept (h : AHeap) (F : Nat → Prop) (h' : AHeap) (F' : Nat → Prop) : Prop :=
  h.length ≤ h'.length ∧ (∀ k, k < h.length → ¬ F k → h'[k]? = h[k]?) ∧ ∀ k, F' k → F k ∨ h.length ≤ k
theorem Kept.refl (h : AHeap) (F : Nat → Prop) : Kept h F h F := ⟨Nat.le_refl _, fun _ _ _ => rfl, fun _ h => .inl h⟩
theorem Kept.trans {h h' h'' : AHeap} {F F' F'' : Nat → Prop} (a : Kept h F h' F') (b : Kept h' F' h'' F'') : Kept h F h'' F'' :=
  ⟨Nat.le_trans a.1 b.1, fun k hk hn => by
    rw [b.2.1 k (Nat.lt_of_lt_of_le hk a.1) (fun hf => (a.2.2 k hf).elim hn (fun h => by omega))]; exact a.2.1 k hk hn,
   fun k hk => (b.2.2 k hk).elim (a.2.2 k) (fun h => .inr (Nat.le_trans a.1 h))⟩
theorem app_of {h h' : AHeap} (hl : h.length ≤ h'.length) (hk : ∀ k, k < h.length → h'[k]? = h[k]?) : ∃ y, h' = h ++ y :=
  ⟨h'.drop h.length, by
    have e : h'.take h.length = h := by
      apply List.ext_getElem?
      intro i
      rw [List.getElem?_take]
      split
      · exact hk i (by assumption)
      · rw [List.getElem?_eq_none (by omega)]
    calc h' = h'.take h.length ++ h'.drop h.length := (List.take_append_drop _ _).symm
      _ = h ++ h'.drop h.length := by rw [e]⟩
theorem Kept.app {h x h' : AHeap} {F F' : Nat → Prop} (a : Kept (h ++ x) F h' F') (hF : ∀ k, F k → h.length ≤ k) : ∃ y, h' = h ++ y :=
  app_of (by have := a.1; simp at this; omega) fun k hk => by
    rw [a.2.1 k (by simp; omega) (fun hf => by have := hF k hf; omega), List.getElem?_append_left hk]
theorem own_full {h : AHeap} {F : Nat → Prop} {id : Nat} {c : AV} (h1 : ∀ k, F k → k < h.length) (h2 : F id) (l : List UInt8) :
    OwnB ((h ++ [AObj.tail 5 1]).set id (.cells [.list (l.map b8) (.own h.length), c])) (fun k => F k ∨ k = h.length) id l c ∧
    Kept h F ((h ++ [AObj.tail 5 1]).set id (.cells [.list (l.map b8) (.own h.length), c])) (fun k => F k ∨ k = h.length) := by
  have hid := h1 id h2
  refine ⟨⟨fun k hk => ?_, .inl h2, .own h.length, ?_, .inr ⟨h.length, rfl, by omega, .inr rfl, ?_⟩⟩, by simp, fun k hk hn => ?_, fun k hk => ?_⟩
  · rcases hk with hk | hk
    · have := h1 k hk; simp; omega
    · simp; omega
  · rw [List.getElem?_set_self (by simp; omega)]
  · rw [List.getElem?_set_ne (by omega)]; simp
  · rw [List.getElem?_set_ne (fun e => hn (by rw [← e]; exact h2)), List.getElem?_append_left hk]
  · rcases hk with hk | hk
    · exact .inl hk
    · exact .inr (by omega)
theorem own_own {h : AHeap} {F : Nat → Prop} {id j : Nat} {c : AV} (h1 : ∀ k, F k → k < h.length) (h2 : F id) (h3 : F j) (l : List UInt8) :
    OwnB ((h.set j .dead ++ [AObj.tail 5 1]).set id (.cells [.list (l.map b8) (.own h.length), c])) (fun k => F k ∨ k = h.length) id l c ∧
    Kept h F ((h.set j .dead ++ [AObj.tail 5 1]).set id (.cells [.list (l.map b8) (.own h.length), c])) (fun k => F k ∨ k = h.length) := by
  have hid := h1 id h2
  refine ⟨⟨fun k hk => ?_, .inl h2, .own h.length, ?_, .inr ⟨h.length, rfl, by omega, .inr rfl, ?_⟩⟩, by simp, fun k hk hn => ?_, fun k hk => ?_⟩
  · rcases hk with hk | hk
    · have := h1 k hk; simp; omega
    · simp; omega
  · rw [List.getElem?_set_self (by simp; omega)]
  · rw [List.getElem?_set_ne (by omega)]; simp
  · rw [List.getElem?_set_ne (fun e => hn (by rw [← e]; exact h2)), List.getElem?_append_left (by simpa using hk), List.getElem?_set_ne (fun e => hn (by rw [← e]; exact h3))]
  · rcases hk with hk | hk
    · exact .inl hk
    · exact .inr (by omega)
/-- The cell beside the bytes turns. -/
theorem own_cell {h : AHeap} {F : Nat → Prop} {id : Nat} {c : AV} {l : List UInt8} {t : Tok} (h1 : ∀ k, F k → k < h.length) (h2 : F id)
    (h4 : t = .full ∨ ∃ j, t = .own j ∧ j ≠ id ∧ F j ∧ h[j]? = some (.tail 5 1)) :
    OwnB (h.set id (.cells [.list (l.map b8) t, c])) F id l c ∧ Kept h F (h.set id (.cells [.list (l.map b8) t, c])) F := by
  have hid := h1 id h2
  refine ⟨⟨fun k hk => by simpa using h1 k hk, h2, t, List.getElem?_set_self hid, h4.imp_right ?_⟩, by simp, fun k hk hn => ?_, fun k hk => .inl hk⟩
  · rintro ⟨j, a, b, c, d⟩
    exact ⟨j, a, b, c, by rw [List.getElem?_set_ne (Ne.symm b)]; exact d⟩
  · rw [List.getElem?_set_ne (fun e => hn (by rw [← e]; exact h2))]
/-- New bytes that own no room, behind new objects. -/
theorem own_new {h x : AHeap} {F : Nat → Prop} {id : Nat} {c : AV} (h1 : ∀ k, F k → k < h.length) (h2 : F id) (l : List UInt8) :
    OwnB ((h ++ x).set id (.cells [.list (l.map b8) .full, c])) F id l c ∧ Kept h F ((h ++ x).set id (.cells [.list (l.map b8) .full, c])) F := by
  have hid := h1 id h2
  refine ⟨⟨fun k hk => by have := h1 k hk; simp; omega, h2, .full, List.getElem?_set_self (by simp; omega), .inl rfl⟩, by simp, fun k hk hn => ?_, fun k hk => .inl hk⟩
  rw [List.getElem?_set_ne (fun e => hn (by rw [← e]; exact h2)), List.getElem?_append_left hk]
theorem new_ok (h : AHeap) : ACalls Try.prog 9 [] h fun r h' => r = .ptr h.length 0 ∧ h' = h ++ [.cells [.list [] .full, .int .i64 0]] := by
  refine acalls_of_awp Try.func9 rfl (by simp only [List.length_cons, List.length_nil]; decide) ?_
  simp only [params_cons, params_nil]
  repeat (first | (refine goes_done ?_; (try simp only [then_normal, then_exit, then_ret, block_normal, block_ret, block_exit, scope_normal, scope_ret, scope_exit, if_true, reduceIte, Nat.reduceEqDiff, reduceCtorEq])) | refine awp_seq ?_ | refine awp_region' (run_start (goes_eq (by simp (disch := (first | omega | (simp; done) | fail)) [if_pos, if_neg, wrap_i64, tmod_pos, tdiv_pos, Int.toNat_add]; rfl) ?_)) | refine awp_block ?_ | refine awp_scope ?_ | (refine awp_exit ?_; (try simp only [then_normal, then_exit, then_ret, block_normal, block_ret, block_exit, scope_normal, scope_ret, scope_exit, if_true, reduceIte, Nat.reduceEqDiff, reduceCtorEq])) | (refine awp_skip ?_; (try simp only [then_normal, then_exit, then_ret, block_normal, block_ret, block_exit, scope_normal, scope_ret, scope_exit, if_true, reduceIte, Nat.reduceEqDiff, reduceCtorEq])) | (refine awp_label ?_; (try simp only [then_normal, then_exit, then_ret, block_normal, block_ret, block_exit, scope_normal, scope_ret, scope_exit, if_true, reduceIte, Nat.reduceEqDiff, reduceCtorEq])) | (refine awp_ret ?_; (try simp only [then_normal, then_exit, then_ret, block_normal, block_ret, block_exit, scope_normal, scope_ret, scope_exit, if_true, reduceIte, Nat.reduceEqDiff, reduceCtorEq])) | refine awp_cond_t rfl ?_ | refine awp_cond_f rfl ?_)
  first | refine body_all (.inr rfl) (by simp; rfl) (by simp; rfl) (by first | (simp; done) | (simp; omega) | omega) ?_ | refine body_all (.inl rfl) (by simp; rfl) (by simp; rfl) (by first | (simp; done) | (simp; omega) | omega) ?_
  simp
theorem dk_new (h : AHeap) : Dk (h ++ [.cells [.list [] .full, .int .i64 0]]) (fun k => k = h.length) h.length [] 0 :=
  ⟨fun k hk => by subst hk; simp, rfl, .full, by simp, .inl rfl⟩
theorem sync_ok (h : AHeap) (F : Nat → Prop) (id : Nat) (l : List UInt8) (s : Nat) (hw : Dk h F id l s) :
    ACalls Try.prog 11 [.ptr id 0] h fun r h' => ∃ F', Dk h' F' id l l.length ∧ Kept h F h' F' := by
  obtain ⟨w1, w2, t, w3, w4⟩ := hw
  have hs := own_cell (c := .int .i64 (l.length : Nat)) (l := l) w1 w2 w4
  refine acalls_of_awp Try.func11 rfl (by simp only [List.length_cons, List.length_nil]; decide) ?_
  simp only [params_cons, params_nil]
  repeat (first | (refine goes_done ?_; (try simp only [then_normal, then_exit, then_ret, block_normal, block_ret, block_exit, scope_normal, scope_ret, scope_exit, if_true, reduceIte, Nat.reduceEqDiff, reduceCtorEq])) | refine awp_seq ?_ | refine awp_region' (run_start (goes_eq (by simp (disch := (first | omega | (simp; done) | fail)) [if_pos, if_neg, wrap_i64, tmod_pos, tdiv_pos, Int.toNat_add, w3]; rfl) ?_)) | refine awp_block ?_ | refine awp_scope ?_ | (refine awp_exit ?_; (try simp only [then_normal, then_exit, then_ret, block_normal, block_ret, block_exit, scope_normal, scope_ret, scope_exit, if_true, reduceIte, Nat.reduceEqDiff, reduceCtorEq])) | (refine awp_skip ?_; (try simp only [then_normal, then_exit, then_ret, block_normal, block_ret, block_exit, scope_normal, scope_ret, scope_exit, if_true, reduceIte, Nat.reduceEqDiff, reduceCtorEq])) | (refine awp_label ?_; (try simp only [then_normal, then_exit, then_ret, block_normal, block_ret, block_exit, scope_normal, scope_ret, scope_exit, if_true, reduceIte, Nat.reduceEqDiff, reduceCtorEq])) | (refine awp_ret ?_; (try simp only [then_normal, then_exit, then_ret, block_normal, block_ret, block_exit, scope_normal, scope_ret, scope_exit, if_true, reduceIte, Nat.reduceEqDiff, reduceCtorEq])) | refine awp_cond_t rfl ?_ | refine awp_cond_f rfl ?_)
  first | refine body_all (.inr rfl) (by simp; rfl) (by simp; rfl) (by first | (simp; done) | (simp; omega) | omega) ?_ | refine body_all (.inl rfl) (by simp; rfl) (by simp; rfl) (by first | (simp; done) | (simp; omega) | omega) ?_
  exact ⟨_, hs⟩
theorem dirty_ok (h : AHeap) (F : Nat → Prop) (id : Nat) (l : List UInt8) (s : Nat) (hl : l.length ≤ 1000000) (hs : s ≤ l.length) (hw : Dk h F id l s) :
    ACalls Try.prog 15 [.ptr id 0] h fun r h' => r = .int .i64 ((l.length - s : Nat) : Int) ∧ h' = h := by
  obtain ⟨w1, w2, t, w3, w4⟩ := hw
  have e : (l.length : Int) - (s : Int) = ((l.length - s : Nat) : Int) := by omega
  refine acalls_of_awp Try.func15 rfl (by simp only [List.length_cons, List.length_nil]; decide) ?_
  simp only [params_cons, params_nil]
  repeat (first | (refine goes_done ?_; (try simp only [then_normal, then_exit, then_ret, block_normal, block_ret, block_exit, scope_normal, scope_ret, scope_exit, if_true, reduceIte, Nat.reduceEqDiff, reduceCtorEq])) | refine awp_seq ?_ | refine awp_region' (run_start (goes_eq (by simp (disch := (first | omega | (simp; done) | fail)) [if_pos, if_neg, wrap_i64, tmod_pos, tdiv_pos, Int.toNat_add, w3]; rfl) ?_)) | refine awp_block ?_ | refine awp_scope ?_ | (refine awp_exit ?_; (try simp only [then_normal, then_exit, then_ret, block_normal, block_ret, block_exit, scope_normal, scope_ret, scope_exit, if_true, reduceIte, Nat.reduceEqDiff, reduceCtorEq])) | (refine awp_skip ?_; (try simp only [then_normal, then_exit, then_ret, block_normal, block_ret, block_exit, scope_normal, scope_ret, scope_exit, if_true, reduceIte, Nat.reduceEqDiff, reduceCtorEq])) | (refine awp_label ?_; (try simp only [then_normal, then_exit, then_ret, block_normal, block_ret, block_exit, scope_normal, scope_ret, scope_exit, if_true, reduceIte, Nat.reduceEqDiff, reduceCtorEq])) | (refine awp_ret ?_; (try simp only [then_normal, then_exit, then_ret, block_normal, block_ret, block_exit, scope_normal, scope_ret, scope_exit, if_true, reduceIte, Nat.reduceEqDiff, reduceCtorEq])) | refine awp_cond_t rfl ?_ | refine awp_cond_f rfl ?_)
  refine awp_draw (.q 0 (.q 1 (.q 2 (.q 5 (.q 6 (.q 7 (.two 3 8 (.q 4 (.a 8 (.q 9 (.q 10 (.done))))) (.a 3 (.q 4 (.q 9 (.q 10 (.done)))))))))))) (by kernel_rfl) (by kernel_rfl) (tree_start (goesT_eq (by simp (disch := (first | omega | (simp; done) | fail)) [if_pos, if_neg, wrap_i64, tmod_pos, tdiv_pos, Int.toNat_add, w3]; rfl) ?_))
  refine goesT_two (goesT_eq (by simp (disch := (first | omega | (simp; done) | fail)) [if_pos, if_neg, wrap_i64, tmod_pos, tdiv_pos, Int.toNat_add, w3]; rfl) ?_) (goesT_eq (by simp (disch := (first | omega | (simp; done) | fail)) [if_pos, if_neg, wrap_i64, tmod_pos, tdiv_pos, Int.toNat_add, w3]; rfl) ?_)
  · refine goesT_done ?_
    (try simp only [then_normal, then_exit, then_ret, block_normal, block_ret, block_exit, scope_normal, scope_ret, scope_exit, if_true, reduceIte, Nat.reduceEqDiff, reduceCtorEq])
    repeat (first | (refine goes_done ?_; (try simp only [then_normal, then_exit, then_ret, block_normal, block_ret, block_exit, scope_normal, scope_ret, scope_exit, if_true, reduceIte, Nat.reduceEqDiff, reduceCtorEq])) | refine awp_seq ?_ | refine awp_region' (run_start (goes_eq (by simp (disch := (first | omega | (simp; done) | fail)) [if_pos, if_neg, wrap_i64, tmod_pos, tdiv_pos, Int.toNat_add]; rfl) ?_)) | refine awp_block ?_ | refine awp_scope ?_ | (refine awp_exit ?_; (try simp only [then_normal, then_exit, then_ret, block_normal, block_ret, block_exit, scope_normal, scope_ret, scope_exit, if_true, reduceIte, Nat.reduceEqDiff, reduceCtorEq])) | (refine awp_skip ?_; (try simp only [then_normal, then_exit, then_ret, block_normal, block_ret, block_exit, scope_normal, scope_ret, scope_exit, if_true, reduceIte, Nat.reduceEqDiff, reduceCtorEq])) | (refine awp_label ?_; (try simp only [then_normal, then_exit, then_ret, block_normal, block_ret, block_exit, scope_normal, scope_ret, scope_exit, if_true, reduceIte, Nat.reduceEqDiff, reduceCtorEq])) | (refine awp_ret ?_; (try simp only [then_normal, then_exit, then_ret, block_normal, block_ret, block_exit, scope_normal, scope_ret, scope_exit, if_true, reduceIte, Nat.reduceEqDiff, reduceCtorEq])) | refine awp_cond_t rfl ?_ | refine awp_cond_f rfl ?_)
    first | refine body_pure0 (.inr rfl) (by simp; rfl) (by simp; rfl) (by simp) ?_ | refine body_pure0 (.inl rfl) (by simp; rfl) (by simp; rfl) (by simp) ?_
    simp [e]
  · refine goesT_done ?_
    (try simp only [then_normal, then_exit, then_ret, block_normal, block_ret, block_exit, scope_normal, scope_ret, scope_exit, if_true, reduceIte, Nat.reduceEqDiff, reduceCtorEq])
    repeat (first | (refine goes_done ?_; (try simp only [then_normal, then_exit, then_ret, block_normal, block_ret, block_exit, scope_normal, scope_ret, scope_exit, if_true, reduceIte, Nat.reduceEqDiff, reduceCtorEq])) | refine awp_seq ?_ | refine awp_region' (run_start (goes_eq (by simp (disch := (first | omega | (simp; done) | fail)) [if_pos, if_neg, wrap_i64, tmod_pos, tdiv_pos, Int.toNat_add]; rfl) ?_)) | refine awp_block ?_ | refine awp_scope ?_ | (refine awp_exit ?_; (try simp only [then_normal, then_exit, then_ret, block_normal, block_ret, block_exit, scope_normal, scope_ret, scope_exit, if_true, reduceIte, Nat.reduceEqDiff, reduceCtorEq])) | (refine awp_skip ?_; (try simp only [then_normal, then_exit, then_ret, block_normal, block_ret, block_exit, scope_normal, scope_ret, scope_exit, if_true, reduceIte, Nat.reduceEqDiff, reduceCtorEq])) | (refine awp_label ?_; (try simp only [then_normal, then_exit, then_ret, block_normal, block_ret, block_exit, scope_normal, scope_ret, scope_exit, if_true, reduceIte, Nat.reduceEqDiff, reduceCtorEq])) | (refine awp_ret ?_; (try simp only [then_normal, then_exit, then_ret, block_normal, block_ret, block_exit, scope_normal, scope_ret, scope_exit, if_true, reduceIte, Nat.reduceEqDiff, reduceCtorEq])) | refine awp_cond_t rfl ?_ | refine awp_cond_f rfl ?_)
    first | refine body_pure0 (.inr rfl) (by simp; rfl) (by simp; rfl) (by simp) ?_ | refine body_pure0 (.inl rfl) (by simp; rfl) (by simp; rfl) (by simp) ?_
    simp [e]
theorem bytes_ok (h : AHeap) (F : Nat → Prop) (id : Nat) (l : List UInt8) (s : Nat) (hl : l.length ≤ 1000000) (hw : Dk h F id l s) :
    ACalls Try.prog 16 [.ptr id 0] h fun r h' => r = .list (l.map b8) .no ∧ h' = h := by
  obtain ⟨w1, w2, t, w3, w4⟩ := hw
  refine acalls_of_awp Try.func16 rfl (by simp only [List.length_cons, List.length_nil]; decide) ?_
  simp only [params_cons, params_nil]
  repeat (first | (refine goes_done ?_; (try simp only [then_normal, then_exit, then_ret, block_normal, block_ret, block_exit, scope_normal, scope_ret, scope_exit, if_true, reduceIte, Nat.reduceEqDiff, reduceCtorEq])) | refine awp_seq ?_ | refine awp_region' (run_start (goes_eq (by simp (disch := (first | omega | (simp; done) | fail)) [if_pos, if_neg, wrap_i64, tmod_pos, tdiv_pos, Int.toNat_add, w3]; rfl) ?_)) | refine awp_block ?_ | refine awp_scope ?_ | (refine awp_exit ?_; (try simp only [then_normal, then_exit, then_ret, block_normal, block_ret, block_exit, scope_normal, scope_ret, scope_exit, if_true, reduceIte, Nat.reduceEqDiff, reduceCtorEq])) | (refine awp_skip ?_; (try simp only [then_normal, then_exit, then_ret, block_normal, block_ret, block_exit, scope_normal, scope_ret, scope_exit, if_true, reduceIte, Nat.reduceEqDiff, reduceCtorEq])) | (refine awp_label ?_; (try simp only [then_normal, then_exit, then_ret, block_normal, block_ret, block_exit, scope_normal, scope_ret, scope_exit, if_true, reduceIte, Nat.reduceEqDiff, reduceCtorEq])) | (refine awp_ret ?_; (try simp only [then_normal, then_exit, then_ret, block_normal, block_ret, block_exit, scope_normal, scope_ret, scope_exit, if_true, reduceIte, Nat.reduceEqDiff, reduceCtorEq])) | refine awp_cond_t rfl ?_ | refine awp_cond_f rfl ?_)
  first | refine body_pure (.inr rfl) (by simp; rfl) (by simp; rfl) (by simp) ?_ | refine body_pure (.inl rfl) (by simp; rfl) (by simp; rfl) (by simp) ?_
  simp
theorem append_ok (x : List UInt8) (hx : x.length ≤ 1000000) (h : AHeap) (F : Nat → Prop) (id : Nat) (l : List UInt8) (s : Nat) (hl : l.length ≤ 1000000) (hw : Dk h F id l s) :
    ACalls Try.prog 10 [.ptr id 0, .list (x.map b8) .no] h fun r h' => r = .int .i64 0 ∧ ∃ F', Dk h' F' id (l ++ fr x) s ∧ Kept h F h' F' := by
  have hfl := fr_length x
  refine acalls_of_awp Try.func10 rfl (by simp only [List.length_cons, List.length_nil]; decide) ?_
  simp only [params_cons, params_nil]
  repeat (first | (refine goes_done ?_; (try simp only [then_normal, then_exit, then_ret, block_normal, block_ret, block_exit, scope_normal, scope_ret, scope_exit, if_true, reduceIte, Nat.reduceEqDiff, reduceCtorEq])) | refine awp_seq ?_ | refine awp_region' (run_start (goes_eq (by simp (disch := (first | omega | (simp; done) | fail)) [if_pos, if_neg, wrap_i64, tmod_pos, tdiv_pos, Int.toNat_add]; rfl) ?_)) | refine awp_block ?_ | refine awp_scope ?_ | (refine awp_exit ?_; (try simp only [then_normal, then_exit, then_ret, block_normal, block_ret, block_exit, scope_normal, scope_ret, scope_exit, if_true, reduceIte, Nat.reduceEqDiff, reduceCtorEq])) | (refine awp_skip ?_; (try simp only [then_normal, then_exit, then_ret, block_normal, block_ret, block_exit, scope_normal, scope_ret, scope_exit, if_true, reduceIte, Nat.reduceEqDiff, reduceCtorEq])) | (refine awp_label ?_; (try simp only [then_normal, then_exit, then_ret, block_normal, block_ret, block_exit, scope_normal, scope_ret, scope_exit, if_true, reduceIte, Nat.reduceEqDiff, reduceCtorEq])) | (refine awp_ret ?_; (try simp only [then_normal, then_exit, then_ret, block_normal, block_ret, block_exit, scope_normal, scope_ret, scope_exit, if_true, reduceIte, Nat.reduceEqDiff, reduceCtorEq])) | refine awp_cond_t rfl ?_ | refine awp_cond_f rfl ?_)
  refine goes_callS (callable_of Try.func23) (by simp (disch := (first | omega | (simp; done) | fail)) [if_pos, if_neg, wrap_i64, tmod_pos, tdiv_pos, Int.toNat_add] <;> first | rfl | omega) _ (put_ok x .no (by omega) _) ?_
  rintro _ h1 ⟨rfl, rfl⟩
  obtain ⟨w1, w2, t, w3, w4⟩ := hw
  rcases w4 with rfl | ⟨i, rfl, hij, hFi, hi⟩
  · have hs := own_full (c := .int .i64 (s : Nat)) w1 w2 (l ++ fr x)
    refine goes_eq (by simp (disch := (first | omega | (simp; done) | fail)) [if_pos, if_neg, wrap_i64, tmod_pos, tdiv_pos, Int.toNat_add, w3, List.getElem?_append_left (w1 id w2)]; rfl) ?_
    repeat (first | (refine goes_done ?_; (try simp only [then_normal, then_exit, then_ret, block_normal, block_ret, block_exit, scope_normal, scope_ret, scope_exit, if_true, reduceIte, Nat.reduceEqDiff, reduceCtorEq])) | refine awp_seq ?_ | refine awp_region' (run_start (goes_eq (by simp (disch := (first | omega | (simp; done) | fail)) [if_pos, if_neg, wrap_i64, tmod_pos, tdiv_pos, Int.toNat_add, w3, List.getElem?_append_left (w1 id w2)]; rfl) ?_)) | refine awp_block ?_ | refine awp_scope ?_ | (refine awp_exit ?_; (try simp only [then_normal, then_exit, then_ret, block_normal, block_ret, block_exit, scope_normal, scope_ret, scope_exit, if_true, reduceIte, Nat.reduceEqDiff, reduceCtorEq])) | (refine awp_skip ?_; (try simp only [then_normal, then_exit, then_ret, block_normal, block_ret, block_exit, scope_normal, scope_ret, scope_exit, if_true, reduceIte, Nat.reduceEqDiff, reduceCtorEq])) | (refine awp_label ?_; (try simp only [then_normal, then_exit, then_ret, block_normal, block_ret, block_exit, scope_normal, scope_ret, scope_exit, if_true, reduceIte, Nat.reduceEqDiff, reduceCtorEq])) | (refine awp_ret ?_; (try simp only [then_normal, then_exit, then_ret, block_normal, block_ret, block_exit, scope_normal, scope_ret, scope_exit, if_true, reduceIte, Nat.reduceEqDiff, reduceCtorEq])) | refine awp_cond_t rfl ?_ | refine awp_cond_f rfl ?_)
    first | refine body_all (.inr rfl) (by simp; rfl) (by simp; rfl) (by first | (simp; done) | (simp; omega) | omega) ?_ | refine body_all (.inl rfl) (by simp; rfl) (by simp; rfl) (by first | (simp; done) | (simp; omega) | omega) ?_
    exact ⟨rfl, _, by simpa [Dk] using hs.1, by simpa using hs.2⟩
  · have hs := own_own (c := .int .i64 (s : Nat)) w1 w2 hFi (l ++ fr x)
    have hga := fun y => List.getElem?_append_left (l₁ := h1.set i .dead) (l₂ := y) (i := id) (by simpa using w1 id w2)
    refine goes_eq (by simp (disch := (first | omega | (simp; done) | fail)) [if_pos, if_neg, wrap_i64, tmod_pos, tdiv_pos, Int.toNat_add, w3, hi, hij, hga]; rfl) ?_
    repeat (first | (refine goes_done ?_; (try simp only [then_normal, then_exit, then_ret, block_normal, block_ret, block_exit, scope_normal, scope_ret, scope_exit, if_true, reduceIte, Nat.reduceEqDiff, reduceCtorEq])) | refine awp_seq ?_ | refine awp_region' (run_start (goes_eq (by simp (disch := (first | omega | (simp; done) | fail)) [if_pos, if_neg, wrap_i64, tmod_pos, tdiv_pos, Int.toNat_add, w3, hi, hij, hga]; rfl) ?_)) | refine awp_block ?_ | refine awp_scope ?_ | (refine awp_exit ?_; (try simp only [then_normal, then_exit, then_ret, block_normal, block_ret, block_exit, scope_normal, scope_ret, scope_exit, if_true, reduceIte, Nat.reduceEqDiff, reduceCtorEq])) | (refine awp_skip ?_; (try simp only [then_normal, then_exit, then_ret, block_normal, block_ret, block_exit, scope_normal, scope_ret, scope_exit, if_true, reduceIte, Nat.reduceEqDiff, reduceCtorEq])) | (refine awp_label ?_; (try simp only [then_normal, then_exit, then_ret, block_normal, block_ret, block_exit, scope_normal, scope_ret, scope_exit, if_true, reduceIte, Nat.reduceEqDiff, reduceCtorEq])) | (refine awp_ret ?_; (try simp only [then_normal, then_exit, then_ret, block_normal, block_ret, block_exit, scope_normal, scope_ret, scope_exit, if_true, reduceIte, Nat.reduceEqDiff, reduceCtorEq])) | refine awp_cond_t rfl ?_ | refine awp_cond_f rfl ?_)
    first | refine body_all (.inr rfl) (by simp; rfl) (by simp; rfl) (by first | (simp; done) | (simp; omega) | omega) ?_ | refine body_all (.inl rfl) (by simp; rfl) (by simp; rfl) (by first | (simp; done) | (simp; omega) | omega) ?_
    exact ⟨rfl, _, by simpa [Dk] using hs.1, by simpa using hs.2⟩
end Go.Proofs.Ytfhldddjjbdlbaa.K
