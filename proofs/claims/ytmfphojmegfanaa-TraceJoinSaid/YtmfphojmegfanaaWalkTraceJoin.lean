/- the law TraceJoin, walked. -/
import Derived.Test.YtmfphojmegfanaaTraceM
import Derived.Test.YtmfphojmegfanaaLaw
namespace Go.Proofs.Ytmfphojmegfanaa
theorem walk_TraceJoin (a b : IntervalV) (W : World) (ha : a.Arg W) (hb : b.Arg W) : Calls Try.prog 7 #[a.val, b.val] W fun e w' => e = .returned (.bool true) ∧ Ext W w' :=
  Spec.law (args := [a.val, b.val]) (traceJoin_any a b (heapOf W))
end Go.Proofs.Ytmfphojmegfanaa
