/- the law LocksNests, walked. -/
import Derived.Test.YtkgepjfofhjokaaLocN
import Derived.Test.YtkgepjfofhjokaaLaw
namespace Go.Proofs.Ytkgepjfofhjokaa
set_option linter.unusedVariables false
theorem walk_LocksNests (l m : Sl Int) (first : Int) (W : World) (h : l.Ok encU okU 1 W ∧ l.c * 1 ≤ 140737488351232) (h2 : m.Ok encU okU 1 W ∧ m.c * 1 ≤ 140737488351232) (i1 : I64 first) : Calls Try.prog 8 #[l.val, m.val, .int .i64 first] W fun e w' => e = .returned (.bool true) ∧ Ext W w' :=
  Spec.law (args := [l.val, m.val, .int .i64 first]) (locksNests_any l.A m.A l.c m.c l.xs m.xs first (heapOf W) h.1.row.at h2.1.row.at h.1.each h2.1.each (by have := h.1.fit; omega) (by have := h2.1.fit; omega))
end Go.Proofs.Ytkgepjfofhjokaa
