/- the law ReadyPlays, walked. -/
import Derived.Test.YtfaeemahdkobfaaRdyW
import Derived.Test.YtfaeemahdkobfaaLaw
namespace Go.Proofs.Ytfaeemahdkobfaa
set_option linter.unusedVariables false
theorem walk_ReadyPlays (l : Sl ROpV) (W : World) (h : l.Ok ROpV.enc ROpV.Arg 64 W ∧ l.c * 64 ≤ 140737488351232) : Calls Try.prog 5 #[l.val] W fun e w' => e = .returned (.bool true) ∧ Ext W w' :=
  Spec.law (args := [l.val]) (readyPlays_any l.A l.c l.xs (heapOf W) h.1.row.at h.1.fit)
end Go.Proofs.Ytfaeemahdkobfaa
