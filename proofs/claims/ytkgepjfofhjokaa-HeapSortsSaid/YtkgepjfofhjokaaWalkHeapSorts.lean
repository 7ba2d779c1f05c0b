/- the law HeapSorts, walked. -/
import Derived.Test.YtkgepjfofhjokaaHeapS
import Derived.Test.YtkgepjfofhjokaaLaw
namespace Go.Proofs.Ytkgepjfofhjokaa
set_option linter.unusedVariables false
theorem walk_HeapSorts (l : Sl ItemV) (W : World) (h : l.Ok ItemV.enc ItemV.Arg 16 W ∧ l.c * 16 ≤ 140737488351232) : Calls Try.prog 3 #[l.val] W fun e w' => e = .returned (.bool true) ∧ Ext W w' :=
  Spec.law (args := [l.val]) (heapSorts_any l.A l.c l.xs (heapOf W) h.1.row.at h.1.fit)
end Go.Proofs.Ytkgepjfofhjokaa
