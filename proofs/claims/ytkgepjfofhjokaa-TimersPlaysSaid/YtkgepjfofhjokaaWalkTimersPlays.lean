/- the law TimersPlays, walked. -/
import Derived.Test.YtkgepjfofhjokaaTimY
import Derived.Test.YtkgepjfofhjokaaLaw
namespace Go.Proofs.Ytkgepjfofhjokaa
set_option linter.unusedVariables false
theorem walk_TimersPlays (l : Sl TOpV) (W : World) (h : l.Ok TOpV.enc TOpV.Arg 32 W ∧ l.c * 32 ≤ 140737488351232) : Calls Try.prog 10 #[l.val] W fun e w' => e = .returned (.bool true) ∧ Ext W w' :=
  Spec.law (args := [l.val]) (timersPlays_any l.A l.c l.xs (heapOf W) h.1.row.at h.1.fit)
end Go.Proofs.Ytkgepjfofhjokaa
