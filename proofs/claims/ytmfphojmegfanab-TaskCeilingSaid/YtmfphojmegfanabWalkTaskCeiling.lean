/- the law TaskCeiling, walked. -/
import Derived.Test.YtmfphojmegfanabAns09
namespace Go.Proofs.Ytmfphojmegfanab
open Go.RowKit
set_option linter.unusedVariables false
set_option maxHeartbeats 2000000 in
theorem walk_TaskCeiling (ts : Sl TaskV) (s : Int) (w : World) (ha : ts.Ok TaskV.enc TaskV.Arg 64 w ∧ ts.c * 64 ≤ 140737488351232) (hs : I64 s) : Calls Try.prog 5 #[ts.val, .int .i64 s] w fun e w' => e = .returned (.bool true) ∧ Ext w w' := by
  have ht : TasksOk w ts := ⟨ha.1.row, fun x hx => (ha.1.each x hx).ok, ha.1.cap, ha.1.fit⟩
  clear ha
  obtain ⟨A, c, xs⟩ := ts
  have C1 := fun w' (h : Ext w w') => ceiling_any A c xs s w' (ht.ext h)
  have C2 := fun w' (h : Ext w w') => rceiling_any A c xs s w' (ht.ext h)
  clear ht hs
  generalize ceilF xs s = u at C1 C2
  unfold Sl.val
  go_enter Try.func5, Try.ntmps5
  go_wp2_with fail
  refine (answers09 _).mono ?_
  rintro e w1 ⟨rfl, hb1⟩
  go_wp2_with fail
  refine (C1 _ (by repeat (first | exact Ext.refl _ | assumption | refine Ext.alloc ?_ _ | refine Ext.drew ?_ | refine Ext.drewN ?_ _ | refine Ext.trans ?_ (by assumption)))).mono ?_
  rintro e w2 ⟨rfl, hb2⟩
  go_wp2_with fail
  refine (C2 _ (by repeat (first | exact Ext.refl _ | assumption | refine Ext.alloc ?_ _ | refine Ext.drew ?_ | refine Ext.drewN ?_ _ | refine Ext.trans ?_ (by assumption)))).mono ?_
  rintro e w3 ⟨rfl, hb3⟩
  go_wp2
  go_ret
  exact ⟨rfl, (by repeat (first | exact Ext.refl _ | assumption | refine Ext.alloc ?_ _ | refine Ext.drew ?_ | refine Ext.drewN ?_ _ | refine Ext.trans ?_ (by assumption)))⟩
end Go.Proofs.Ytmfphojmegfanab
