/- the law TaskOwn, walked. -/
import Derived.Test.YtmfphojmegfanabOwnE
namespace Go.Proofs.Ytmfphojmegfanab
set_option linter.unusedVariables false
theorem walk_TaskOwn (t : TaskV) (W : World) (ht : t.Arg W) : Calls Try.prog 4 #[t.val] W fun e w' => e = .returned (.bool true) ∧ Ext W w' :=
  Spec.law (args := [.agg t.enc.toArray]) (taskOwn_any t (heapOf W) ht.ok.sec.row.at ht.ok.devs.row.at (by have := ht.ok.sec.fit; omega) (by have := ht.ok.devs.fit; omega))
end Go.Proofs.Ytmfphojmegfanab
