/- Short words for the printed texts: each holds its own tactic. -/
import Derived.Test.YtmjhgeinhhhodaaWWords
import Derived.WalkKit
namespace Go.Proofs.Ytmjhgeinhhhodaa.Ext
set_option linter.unusedVariables false
open Go.RowKit Go.Proofs.YtmjhgeinhhhodaaW.PrintWords
theorem bk_ {w w' : World} {g : Nat} {o : Obj} (h : w.heap[g]? = some o)
    (k : w.heap[g]? = some o → w'.heap[g]? = some o := by intro h; (with_reducible repeat (first | refine blk_drewN ?_ _ | refine blk_drew ?_ | refine blk_alloc ?_ _)); exact h) : w'.heap[g]? = some o := k h
theorem bw_ {w W W' : World} (h : Below w.heap.size w W)
    (k : Below w.heap.size w W → Below w.heap.size w W' := by intro h; repeat (first | (with_reducible first | exact h | apply below_alloc | apply pw_below_drewN | apply below_drew1 | refine below_set ?_ (Aside0.out (by assumption))) | exact h)) : Below w.heap.size w W' := k h
theorem sz_ {w W' : World} {gb : Nat} (hg : gb = W'.heap.size) (h : Below w.heap.size w W') : w.heap.size ≤ gb := by rw [hg]; exact below_size h
theorem ne_ {W' : World} {g gb : Nat} (hg : gb = W'.heap.size) (h : g < W'.heap.size) : g ≠ gb := by rw [hg]; exact Nat.ne_of_lt h
theorem bx_ {P : Program} {ops : Array Oper} {rest : List Oper} {o : Oper} {a : Act} {Q : Exit → Act → World → Prop} {W : World} {N : Tmp} {cs : Array Value} {t : TypeId}
    (h : ∀ g, g = W.heap.size → ∀ w1, w1.heap[g]? = some (.cells cs t (0, 0)) → Below W.heap.size W w1 → wpList P ops Q rest (a.put o.dst (.pointer (some ⟨g, 0, none⟩))) w1)
    (hd : o.dst = some N := by rfl) (hgd : o.guard = none := by rfl)
    (hrun : (execOp a.eval o).run P W = .ok (.value (.pointer (some ⟨W.heap.size, 0, none⟩))) (W.alloc (.cells cs t (0, 0))) := by first | (go_simp; done) | (go_simp; rfl)) : wpList P ops Q (o :: rest) a W :=
  box_event hgd hd hrun h
end Go.Proofs.Ytmjhgeinhhhodaa.Ext
