/- the law ReadyNone, walked. -/
import Derived.Test.YtfaeemahdkobfaaRdyO
import Derived.Test.YtfaeemahdkobfaaLaw
namespace Go.Proofs.Ytfaeemahdkobfaa
set_option linter.unusedVariables false
theorem walk_ReadyNone (j : JobV) (W : World) (h : j.Arg W) : Calls Try.prog 7 #[j.val] W fun e w' => e = .returned (.bool true) ∧ Ext W w' :=
  Spec.law (args := [j.val]) (readyNone_any j (heapOf W))
end Go.Proofs.Ytfaeemahdkobfaa
