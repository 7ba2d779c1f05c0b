/- the law ReadyDrops, walked. -/
import Derived.Test.YtfaeemahdkobfaaRdyY
import Derived.Test.YtfaeemahdkobfaaLaw
namespace Go.Proofs.Ytfaeemahdkobfaa
set_option linter.unusedVariables false
theorem walk_ReadyDrops (l : Sl JobV) (task : Int) (W : World) (h : l.Ok JobV.enc JobV.Arg 48 W ∧ l.c * 48 ≤ 140737488351232) (i1 : I64 task) : Calls Try.prog 6 #[l.val, .int .i64 task] W fun e w' => e = .returned (.bool true) ∧ Ext W w' :=
  Spec.law (args := [l.val, .int .i64 task]) (readyDrops_any l.A l.c l.xs task (heapOf W) h.1.row.at (Nat.le_trans h.1.fit (by decide)))
end Go.Proofs.Ytfaeemahdkobfaa
