/- the law TimersOrder, walked. -/
import Derived.Test.YtkgepjfofhjokaaTimO
import Derived.Test.YtkgepjfofhjokaaLaw
namespace Go.Proofs.Ytkgepjfofhjokaa
set_option linter.unusedVariables false
theorem walk_TimersOrder (l : Sl TimerV) (now : Int) (W : World) (h : l.Ok TimerV.enc TimerV.Arg 24 W ∧ l.c * 24 ≤ 140737488351232) (i1 : I64 now) : Calls Try.prog 12 #[l.val, .int .i64 now] W fun e w' => e = .returned (.bool true) ∧ Ext W w' :=
  Spec.law (args := [l.val, .int .i64 now]) (timersOrder_any l.A l.c l.xs now (heapOf W) h.1.row.at h.1.fit)
end Go.Proofs.Ytkgepjfofhjokaa
