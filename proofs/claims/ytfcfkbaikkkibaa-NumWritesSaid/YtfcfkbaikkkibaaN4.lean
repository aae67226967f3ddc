/- Numbers as bytes: the writer's steps on the heap. -/
import Derived.Test.YtfcfkbaikkkibaaN3
set_option linter.unusedVariables false
set_option linter.unusedSimpArgs false
set_option maxRecDepth 20000
namespace Go.Proofs.Ytfcfkbaikkkibaa.N
open Go Go.Proofs.Ytfcfkbaikkkibaa.V
theorem wr_full {h : AHeap} {F : Nat → Prop} {id : Nat} {sp : Bool} (h1 : ∀ k, F k → k < h.length) (h2 : F id) (l : List UInt8) :
    Wr ((h ++ [AObj.tail 5 1]).set id (.cells [.list (l.map b8) (.own h.length), .bool sp])) (fun k => F k ∨ k = h.length) id l sp ∧
    Kept h F ((h ++ [AObj.tail 5 1]).set id (.cells [.list (l.map b8) (.own h.length), .bool sp])) (fun k => F k ∨ k = h.length) := by
  have hid := h1 id h2
  refine ⟨⟨fun k hk => ?_, .inl h2, .own h.length, ?_, .inr ⟨h.length, rfl, by omega, .inr rfl, ?_⟩⟩, by simp, fun k hk hn => ?_, fun k hk => ?_⟩
  · rcases hk with hk | hk
    · have := h1 k hk; simp; omega
    · simp; omega
  · rw [List.getElem?_set_self (by simp; omega)]
  · rw [List.getElem?_set_ne (by omega)]; simp
  · rw [List.getElem?_set_ne (fun e => hn (by rw [← e]; exact h2)), List.getElem?_append_left hk]
  · rcases hk with hk | hk
    · exact .inl hk
    · exact .inr (by omega)
theorem wr_own {h : AHeap} {F : Nat → Prop} {id j : Nat} {sp : Bool} (h1 : ∀ k, F k → k < h.length) (h2 : F id) (h3 : F j) (l : List UInt8) :
    Wr ((h.set j .dead ++ [AObj.tail 5 1]).set id (.cells [.list (l.map b8) (.own h.length), .bool sp])) (fun k => F k ∨ k = h.length) id l sp ∧
    Kept h F ((h.set j .dead ++ [AObj.tail 5 1]).set id (.cells [.list (l.map b8) (.own h.length), .bool sp])) (fun k => F k ∨ k = h.length) := by
  have hid := h1 id h2
  refine ⟨⟨fun k hk => ?_, .inl h2, .own h.length, ?_, .inr ⟨h.length, rfl, by omega, .inr rfl, ?_⟩⟩, by simp, fun k hk hn => ?_, fun k hk => ?_⟩
  · rcases hk with hk | hk
    · have := h1 k hk; simp; omega
    · simp; omega
  · rw [List.getElem?_set_self (by simp; omega)]
  · rw [List.getElem?_set_ne (by omega)]; simp
  · rw [List.getElem?_set_ne (fun e => hn (by rw [← e]; exact h2)), List.getElem?_append_left (by simpa using hk), List.getElem?_set_ne (fun e => hn (by rw [← e]; exact h3))]
  · rcases hk with hk | hk
    · exact .inl hk
    · exact .inr (by omega)
end Go.Proofs.Ytfcfkbaikkkibaa.N
