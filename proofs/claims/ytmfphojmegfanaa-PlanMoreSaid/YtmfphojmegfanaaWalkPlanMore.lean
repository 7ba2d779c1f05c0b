/- the law PlanMore, walked. -/
import Derived.Test.YtmfphojmegfanaaPlanN
namespace Go.Proofs.Ytmfphojmegfanaa
set_option linter.unusedVariables false
theorem walk_PlanMore (v : ViewV) (t : TaskV) (n d : Int) (W : World) (hv : v.Arg W) (ht : t.Arg W) (hn : I64 n) (hd : I64 d) : Calls Try.prog 5 #[v.val, t.val, .int .i64 n, .int .i64 d] W fun e w' => e = .returned (.bool true) ∧ Ext W w' :=
  Spec.law (args := [.agg v.enc.toArray, .agg t.enc.toArray, .int .i64 n, .int .i64 d]) (planMore_any v t n d W hv ht hn)
end Go.Proofs.Ytmfphojmegfanaa
