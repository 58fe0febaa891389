/- By hand: a table that is built and stored whole. -/
import Derived.Test.YtebcdfdkgjcmmaaWWords
import Derived.Test.YtebcdfdkgjcmmaaWMore
import Derived.Laws.Tables
import Derived.Laws.Rows
namespace Go.Proofs.Ytebcdfdkgjcmmaa.Hand
set_option linter.unusedVariables false
set_option linter.unusedSimpArgs false
open Go Go.RowKit Go.Proofs.YtebcdfdkgjcmmaaW.PrintWords

theorem wpList_build_to {P : Program} {ops : Array Oper} {rest : List Oper} {o : Oper} {a : Act} {w : World} {Q : Exit → Act → World → Prop} (hg : o.guard = none) (t : TypeId) (parts : Array (Nat × Operand)) (ho : o.op = .build t parts) (cells : Array Value)
    (hf : P.built t (parts.map fun (i, x) => (i, a.eval x)).toList = some cells)
    (h : wpList P ops Q rest (a.put o.dst (.agg cells)) w) : wpList P ops Q (o :: rest) a w :=
  wpList_build hg t parts ho (by rw [hf]; rfl) (by rw [hf]; exact h)

theorem heap_alloc_new (w : World) (o : Obj) : (w.alloc o).heap[w.heap.size]? = some o := by
  show (w.heap.push o)[w.heap.size]? = some o
  simp

theorem below_setRow_new (w : World) (o : Obj) (cs : Array Value) : Below w.heap.size w ((w.alloc o).setRow w.heap.size cs) := by
  refine ⟨rfl, rfl, rfl, ?_, fun k hk => ?_⟩
  · unfold World.setRow
    show w.heap.size ≤ ((w.heap.push o).modify w.heap.size _).size
    simp
  · rw [setRow_other _ _ _ _ (by omega)]
    show (w.heap.push o)[k]? = w.heap[k]?
    rw [Array.getElem?_push, if_neg (by omega)]

end Go.Proofs.Ytebcdfdkgjcmmaa.Hand
