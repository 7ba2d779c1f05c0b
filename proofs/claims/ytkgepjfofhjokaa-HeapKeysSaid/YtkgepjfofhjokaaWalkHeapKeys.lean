/- the law HeapKeys, walked. -/
import Derived.Test.YtkgepjfofhjokaaHeapK
import Derived.Test.YtkgepjfofhjokaaLaw
namespace Go.Proofs.Ytkgepjfofhjokaa
set_option linter.unusedVariables false
theorem walk_HeapKeys (l : Sl ItemV) (id a b : Int) (W : World) (h : l.Ok ItemV.enc ItemV.Arg 16 W ∧ l.c * 16 ≤ 140737488351232) (i1 : I64 id) (i2 : I64 a) (i3 : I64 b) : Calls Try.prog 4 #[l.val, .int .i64 id, .int .i64 a, .int .i64 b] W fun e w' => e = .returned (.bool true) ∧ Ext W w' :=
  Spec.law (args := [l.val, .int .i64 id, .int .i64 a, .int .i64 b]) (heapKeys_any l.A l.c l.xs id a b (heapOf W) h.1.row.at h.1.fit)
end Go.Proofs.Ytkgepjfofhjokaa
