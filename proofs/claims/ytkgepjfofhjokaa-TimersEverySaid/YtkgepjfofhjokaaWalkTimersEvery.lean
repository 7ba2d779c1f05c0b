/- the law TimersEvery, walked. -/
import Derived.Test.YtkgepjfofhjokaaTimE
import Derived.Test.YtkgepjfofhjokaaLaw
namespace Go.Proofs.Ytkgepjfofhjokaa
set_option linter.unusedVariables false
theorem walk_TimersEvery (a every now : Int) (W : World) (i1 : 0 ≤ a ∧ a ≤ 255) (i2 : 0 ≤ every ∧ every ≤ 255) (i3 : 0 ≤ now ∧ now ≤ 255) : Calls Try.prog 11 #[.int .u8 a, .int .u8 every, .int .u8 now] W fun e w' => e = .returned (.bool true) ∧ Ext W w' :=
  Spec.law (args := [.int .u8 a, .int .u8 every, .int .u8 now]) (timersEvery_any a every now i1 i2 i3 (heapOf W))
end Go.Proofs.Ytkgepjfofhjokaa
