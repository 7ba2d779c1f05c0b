/- the law ReadyOwn, walked. -/
import Derived.Test.YtfaeemahdkobfaaRdyY
import Derived.Test.YtfaeemahdkobfaaLaw
namespace Go.Proofs.Ytfaeemahdkobfaa
set_option linter.unusedVariables false
theorem walk_ReadyOwn (l : Sl JobV) (W : World) (h : l.Ok JobV.enc JobV.Arg 48 W ∧ l.c * 48 ≤ 140737488351232) : Calls Try.prog 4 #[l.val] W fun e w' => e = .returned (.bool true) ∧ Ext W w' :=
  Spec.law (args := [l.val]) (readyOwn_any l.A l.c l.xs (heapOf W) h.1.row.at (Nat.le_trans h.1.fit (by decide)))
end Go.Proofs.Ytfaeemahdkobfaa
