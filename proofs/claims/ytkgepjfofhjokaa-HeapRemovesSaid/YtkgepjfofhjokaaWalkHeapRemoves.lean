/- the law HeapRemoves, walked. -/
import Derived.Test.YtkgepjfofhjokaaHeapR
import Derived.Test.YtkgepjfofhjokaaLaw
namespace Go.Proofs.Ytkgepjfofhjokaa
set_option linter.unusedVariables false
theorem walk_HeapRemoves (l : Sl ItemV) (g : Sl Int) (W : World) (h : l.Ok ItemV.enc ItemV.Arg 16 W ∧ l.c * 16 ≤ 140737488351232) (h2 : g.Ok encI okI 8 W ∧ g.c * 8 ≤ 140737488351232) : Calls Try.prog 6 #[l.val, g.val] W fun e w' => e = .returned (.bool true) ∧ Ext W w' :=
  Spec.law (args := [l.val, g.val]) (heapRemoves_any l.A g.A l.c g.c l.xs g.xs (heapOf W) h.1.row.at h.1.fit h2.1.row.at h2.1.fit)
end Go.Proofs.Ytkgepjfofhjokaa
