/- Slices that grow, of any size: append in a region whose order is fixed. No program is named here. -/
import Derived.Test.YtajgeofhlgoifaaV30
set_option linter.unusedVariables false
set_option linter.unusedSimpArgs false
namespace Go.Proofs.Ytajgeofhlgoifaa.V
open Go Go.RowKit
theorem aops_append_k {P : Program} {E : Env P} {ops : Array Oper} {o : Oper} {r : List Oper} {n : Nat} {s : Slots} {h : AHeap} {K : ASt → Prop} {t t2 e : TypeId} {x y : Operand} {k by_ m c : Nat} {zc cs : List AV} {z : AV}
    (hop : o.op = .call ⟨.builtin .append, #[x, y], #[t, t2]⟩) (hg : o.guard = none) (ht : P.underlying t = some (.slice e)) (hs : sizeT P e = some k) (hb : bytesT P e = some by_) (hz : zeroCells P e = some zc) (hzl : zc.length = k) (hk : 0 < k)
    (hzk : z.cells.length = k) (h1 : onesL [z] = true) (hx : RowAt h k (Slots.ev s x) m c cs) (hy : newsA P t2 e (Slots.ev s y) = some [z]) (hbb : (m + 1) * by_ ≤ 140737488355328) (h63 : m + 1 ≤ 140737488355328)
    (k0 : Grown h k (Slots.ev s x) m c cs z fun q h' => AOps E ops r ⟨n, Slots.put n s o.dst q, h'⟩ K) : AOps E ops (o :: r) ⟨n, s, h⟩ K :=
  aops_one hg (aope_of_gives (s := fun a => Builtin.append_ #[t, t2] o.type #[a.eval x, a.eval y]) (fun a => by simp [execOp, hop, resolve, invoke, builtin]) (fun c => by rw [hop]; simp) fun w0 g w a ra S => by
    obtain ⟨q, h', hq, G⟩ := append_k (P := P) (t2 := t2) (ty := o.type) S ht hs hb hz hzl hk hzk h1 hx hy hbb h63 (ra.ev x) (ra.ev y) k0
    exact ⟨q, h', hq, G⟩)
end Go.Proofs.Ytajgeofhlgoifaa.V
