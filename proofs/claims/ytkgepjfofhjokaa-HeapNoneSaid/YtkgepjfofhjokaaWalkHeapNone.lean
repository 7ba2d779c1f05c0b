/- the law HeapNone, walked. -/
import Derived.Test.YtkgepjfofhjokaaHeapG
import Derived.Test.YtkgepjfofhjokaaLaw
namespace Go.Proofs.Ytkgepjfofhjokaa
set_option linter.unusedVariables false
theorem walk_HeapNone (id key : Int) (W : World) (i1 : I64 id) (i2 : I64 key) : Calls Try.prog 7 #[.int .i64 id, .int .i64 key] W fun e w' => e = .returned (.bool true) ∧ Ext W w' :=
  Spec.law (args := [.int .i64 id, .int .i64 key]) (heapNone_any id key (heapOf W))
end Go.Proofs.Ytkgepjfofhjokaa
