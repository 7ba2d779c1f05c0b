/- the law KernBegins, walked. -/
import Derived.Test.YtflgnpidelkkpaaGreatMq47
import Derived.Test.YtflgnpidelkkpaaGreatMq18
namespace Go.Proofs.YtflgnpidelkkpaaGreat
set_option maxRecDepth 8000
set_option maxHeartbeats 1000000
set_option linter.unusedVariables false
theorem walk_KernBegins (p : PlatV) (W : World) (h : p.Arg W) : Calls Tryz.prog 9 #[p.val] W fun e w' => e = .returned (.bool true) ∧ Ext W w' :=
  Spec.law (args := [p.val]) (kernBegins_any p (heapOf W) (platX_arg h))
end Go.Proofs.YtflgnpidelkkpaaGreat
