/- the law KernNone, walked. -/
import Derived.Test.YtflgnpidelkkpaaGreatMq46
import Derived.Test.YtflgnpidelkkpaaGreatMq18
namespace Go.Proofs.YtflgnpidelkkpaaGreat
set_option maxRecDepth 8000
set_option maxHeartbeats 1000000
set_option linter.unusedVariables false
theorem walk_KernNone (x : StepV) (n : Int) (W : World) (h : x.Arg W) (hn : I64 n) : Calls Tryz.prog 11 #[x.val, .int .i64 n] W fun e w' => e = .returned (.bool true) ∧ Ext W w' :=
  Spec.law (args := [x.val, .int .i64 n]) (kernNone_any x n (heapOf W))
end Go.Proofs.YtflgnpidelkkpaaGreat
