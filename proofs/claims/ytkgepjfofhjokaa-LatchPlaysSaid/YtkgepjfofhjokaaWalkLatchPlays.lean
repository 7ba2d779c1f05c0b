/- the law LatchPlays, walked. -/
import Derived.Test.YtkgepjfofhjokaaLatY
import Derived.Test.YtkgepjfofhjokaaLaw
namespace Go.Proofs.Ytkgepjfofhjokaa
set_option linter.unusedVariables false
theorem walk_LatchPlays (l : Sl AOpV) (W : World) (h : l.Ok AOpV.enc AOpV.Arg 32 W ∧ l.c * 32 ≤ 140737488351232) : Calls Try.prog 16 #[l.val] W fun e w' => e = .returned (.bool true) ∧ Ext W w' :=
  Spec.law (args := [l.val]) (latchPlays_any l.A l.c l.xs (heapOf W) h.1.row.at h.1.fit)
end Go.Proofs.Ytkgepjfofhjokaa
