/- the law TraceOwn, walked. -/
import Derived.Test.YtmfphojmegfanaaTraceM
import Derived.Test.YtmfphojmegfanaaLaw
namespace Go.Proofs.Ytmfphojmegfanaa
theorem walk_TraceOwn (l : Sl IntervalV) (W : World) (h : l.Ok IntervalV.enc IntervalV.Arg 48 W ∧ l.c * 48 ≤ 140737488351232) : Calls Try.prog 8 #[l.val] W fun e w' => e = .returned (.bool true) ∧ Ext W w' :=
  Spec.law (args := [l.val]) (traceOwn_any l.A l.c l.xs (heapOf W) h.1.row.at h.1.fit)
end Go.Proofs.Ytmfphojmegfanaa
