/- the law LatchNone, walked. -/
import Derived.Test.YtkgepjfofhjokaaLatN
import Derived.Test.YtkgepjfofhjokaaLaw
namespace Go.Proofs.Ytkgepjfofhjokaa
set_option linter.unusedVariables false
theorem walk_LatchNone (t a c : Int) (W : World) (i1 : I64 t) (i2 : I64 a) (i3 : I64 c) : Calls Try.prog 19 #[.int .i64 t, .int .i64 a, .int .i64 c] W fun e w' => e = .returned (.bool true) ∧ Ext W w' :=
  Spec.law (args := [.int .i64 t, .int .i64 a, .int .i64 c]) (latchNone_any t a c (heapOf W))
end Go.Proofs.Ytkgepjfofhjokaa
