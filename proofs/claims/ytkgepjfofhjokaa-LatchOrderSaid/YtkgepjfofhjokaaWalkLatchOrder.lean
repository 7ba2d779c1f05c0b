/- the law LatchOrder, walked. -/
import Derived.Test.YtkgepjfofhjokaaLatY
import Derived.Test.YtkgepjfofhjokaaLaw
namespace Go.Proofs.Ytkgepjfofhjokaa
set_option linter.unusedVariables false
theorem walk_LatchOrder (l : Sl AOpV) (now : Int) (W : World) (h : l.Ok AOpV.enc AOpV.Arg 32 W ∧ l.c * 32 ≤ 140737488351232) (i1 : I64 now) : Calls Try.prog 17 #[l.val, .int .i64 now] W fun e w' => e = .returned (.bool true) ∧ Ext W w' :=
  Spec.law (args := [l.val, .int .i64 now]) (latchOrder_any l.A l.c l.xs now (heapOf W) h.1.row.at h.1.fit)
end Go.Proofs.Ytkgepjfofhjokaa
