/- the law LocksOver, walked. -/
import Derived.Test.YtkgepjfofhjokaaLocW
import Derived.Test.YtkgepjfofhjokaaLaw
namespace Go.Proofs.Ytkgepjfofhjokaa
set_option linter.unusedVariables false
theorem walk_LocksOver (cy ot : Int) (W : World) (i1 : 0 ≤ cy ∧ cy ≤ 255) (i2 : 0 ≤ ot ∧ ot ≤ 255) : Calls Try.prog 9 #[.int .u8 cy, .int .u8 ot] W fun e w' => e = .returned (.bool true) ∧ Ext W w' :=
  Spec.law (args := [.int .u8 cy, .int .u8 ot]) (locksOver_any cy ot i1 i2 (heapOf W))
end Go.Proofs.Ytkgepjfofhjokaa
