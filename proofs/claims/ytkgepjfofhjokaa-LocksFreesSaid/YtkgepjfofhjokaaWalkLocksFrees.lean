/- the law LocksFrees, walked. -/
import Derived.Test.YtkgepjfofhjokaaLocZ
import Derived.Test.YtkgepjfofhjokaaLaw
namespace Go.Proofs.Ytkgepjfofhjokaa
set_option linter.unusedVariables false
theorem walk_LocksFrees (l : Sl LOpV) (task : Int) (W : World) (h : l.Ok LOpV.enc LOpV.Arg 32 W ∧ l.c * 32 ≤ 140737488351232) (i1 : I64 task) : Calls Try.prog 15 #[l.val, .int .i64 task] W fun e w' => e = .returned (.bool true) ∧ Ext W w' :=
  Spec.law (args := [l.val, .int .i64 task]) (locksFrees_any l.A l.c l.xs task (heapOf W) h.1.row.at h.1.fit)
end Go.Proofs.Ytkgepjfofhjokaa
