/- the law HeapPlays, walked. -/
import Derived.Test.YtkgepjfofhjokaaHeapY
import Derived.Test.YtkgepjfofhjokaaLaw
namespace Go.Proofs.Ytkgepjfofhjokaa
set_option linter.unusedVariables false
theorem walk_HeapPlays (l : Sl HOpV) (W : World) (h : l.Ok HOpV.enc HOpV.Arg 24 W ∧ l.c * 24 ≤ 140737488351232) : Calls Try.prog 5 #[l.val] W fun e w' => e = .returned (.bool true) ∧ Ext W w' :=
  Spec.law (args := [l.val]) (heapPlays_any l.A l.c l.xs (heapOf W) h.1.row.at h.1.fit)
end Go.Proofs.Ytkgepjfofhjokaa
