/- the law TimersAgain, walked. -/
import Derived.Test.YtkgepjfofhjokaaTimA
import Derived.Test.YtkgepjfofhjokaaLaw
namespace Go.Proofs.Ytkgepjfofhjokaa
set_option linter.unusedVariables false
theorem walk_TimersAgain (id a b every : Int) (W : World) (i1 : I64 id) (i2 : I64 a) (i3 : I64 b) (i4 : I64 every) : Calls Try.prog 13 #[.int .i64 id, .int .i64 a, .int .i64 b, .int .i64 every] W fun e w' => e = .returned (.bool true) ∧ Ext W w' :=
  Spec.law (args := [.int .i64 id, .int .i64 a, .int .i64 b, .int .i64 every]) (timersAgain_any id a b every (heapOf W))
end Go.Proofs.Ytkgepjfofhjokaa
