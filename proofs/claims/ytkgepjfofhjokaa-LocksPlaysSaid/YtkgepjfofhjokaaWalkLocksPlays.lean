/- the law LocksPlays, walked. -/
import Derived.Test.YtkgepjfofhjokaaLocY
import Derived.Test.YtkgepjfofhjokaaLaw
namespace Go.Proofs.Ytkgepjfofhjokaa
set_option linter.unusedVariables false
theorem walk_LocksPlays (ts : Sl TaskV) (l : Sl LOpV) (W : World) (ht : ts.Ok TaskV.enc TaskV.Arg 64 W ∧ ts.c * 64 ≤ 140737488351232) (h : l.Ok LOpV.enc LOpV.Arg 32 W ∧ l.c * 32 ≤ 140737488351232) : Calls Try.prog 14 #[ts.val, l.val] W fun e w' => e = .returned (.bool true) ∧ Ext W w' :=
  Spec.law (args := [ts.val, l.val]) (locksPlays_any ts.A ts.c ts.xs l.A l.c l.xs (heapOf W) ⟨ht.1.row.at, fun t h => (ht.1.each t h).ok.sec.row.at, by have := ht.1.fit; omega⟩ h.1.row.at h.1.fit)
end Go.Proofs.Ytkgepjfofhjokaa
