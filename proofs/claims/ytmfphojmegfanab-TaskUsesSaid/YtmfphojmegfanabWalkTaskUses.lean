/- the law TaskUses, walked. -/
import Derived.Test.YtmfphojmegfanabAns09
import Derived.Deep.RegionHeld3
namespace Go.Proofs.Ytmfphojmegfanab
open Go.RowKit
set_option linter.unusedVariables false
set_option maxHeartbeats 4000000 in
theorem walk_TaskUses (t : TaskV) (s : Int) (w : World) (ht : t.Arg w) (hs : I64 s) : Calls Try.prog 3 #[t.val, .int .i64 s] w fun e w' => e = .returned (.bool true) ∧ Ext w w' := by
  have hk := ht.ok
  clear ht hs
  obtain ⟨q0, q1, q2, q3⟩ := TaskV.boxed w t 24
  have C1 := fun w' (h : Ext w w') => uses_any t s w' (hk.ext h)
  have C2 := fun w' (h : Ext w w') => ruses_any t s w' (hk.ext h)
  have C3 := fun w' (h : Ext w w') => needs_any t s w' (hk.ext h)
  have C4 := fun w' (h : Ext w w') => rneeds_any t s w' (hk.ext h)
  generalize usesB t s = u at C1 C2
  generalize memB s t.devs.xs = m at C3 C4
  clear hk
  unfold TaskV.val
  have hw1 : Ext w (w.alloc (.cells t.arr 24)) := (Ext.refl w).alloc _
  go_enter Try.func3, Try.ntmps3
  go_wp2
  go_region_held3 (fun w' => w'.cell? ⟨w.heap.size, 0, none⟩ = some (.int .i64 t.period) ∧ w'.cell? ⟨w.heap.size, 1, none⟩ = some (.int .i64 t.cycles) ∧ w'.cell? ⟨w.heap.size, 2, none⟩ = some (.slice t.sec.A t.sec.xs.length t.sec.c) ∧ w'.cell? ⟨w.heap.size, 3, none⟩ = some (.slice t.devs.A t.devs.xs.length t.devs.c) ∧ Ext w w')
    (first | exact ⟨q0, q1, q2, q3, hw1.drew⟩ | (go_split_ands; refine ⟨hbx.cell ?_, hbx.cell ?_, hbx.cell ?_, hbx.cell ?_, Ext.trans ?_ hbx⟩ <;> assumption))
    (first
      | (go_at_call 7; refine (answers09 _).mono ?_; rintro e w9 ⟨rfl, hbx⟩)
      | (go_at_call 8; go_split_ands; refine (C1 _ (by assumption)).mono ?_; rintro e w9 ⟨rfl, hbx⟩)
      | (go_at_call 9; go_split_ands; refine (C2 _ (by assumption)).mono ?_; rintro e w9 ⟨rfl, hbx⟩)
      | (go_at_call 10; go_split_ands; refine (C3 _ (by assumption)).mono ?_; rintro e w9 ⟨rfl, hbx⟩)
      | (go_at_call 11; go_split_ands; refine (C4 _ (by assumption)).mono ?_; rintro e w9 ⟨rfl, hbx⟩))
  go_split_ands
  go_wp2
  go_ret
  exact ⟨rfl, by assumption⟩
end Go.Proofs.Ytmfphojmegfanab
