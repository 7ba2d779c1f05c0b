/- the law ReadyOrder, walked. -/
import Derived.Test.YtfaeemahdkobfaaRdyQ
import Derived.Test.YtfaeemahdkobfaaLaw
namespace Go.Proofs.Ytfaeemahdkobfaa
set_option linter.unusedVariables false
theorem walk_ReadyOrder (l : Sl JobV) (W : World) (h : l.Ok JobV.enc JobV.Arg 48 W ∧ l.c * 48 ≤ 140737488351232) : Calls Try.prog 3 #[l.val] W fun e w' => e = .returned (.bool true) ∧ Ext W w' :=
  Spec.law (args := [l.val]) (readyOrder_any l.A l.c l.xs (heapOf W) h.1.row.at (Nat.le_trans h.1.fit (by decide)))
end Go.Proofs.Ytfaeemahdkobfaa
