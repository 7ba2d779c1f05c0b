/- the law TaskChecks, walked. -/
import Derived.Test.YtmfphojmegfanaaAns09
import Derived.Test.YtmfphojmegfanaaTableS
namespace Go.Proofs.Ytmfphojmegfanaa
open Go.RowKit
set_option linter.unusedVariables false
set_option maxHeartbeats 2000000 in
theorem walk_TaskChecks (p : PlatV) (t : TaskV) (w : World) (hp : p.Arg w) (ht : t.Arg w) : Calls Try.prog 14 #[p.val, t.val] w fun e w' => e = .returned (.bool true) ∧ Ext w w' := by
  have hpk := hp.ok
  have htk := ht.ok
  clear hp ht
  have C1 := fun w' (h : Ext w w') => rtable_any p w' (hpk.ext h)
  have C2 := fun w' (h : Ext w w') => tcheck_any p t w' (hpk.ext h) (htk.ext h)
  have C3 := fun w' (h : Ext w w') => rtask_any p t w' (hpk.ext h) (htk.ext h)
  clear hpk htk
  obtain ⟨p0, p1, p2, p3, p4, p5, p6, p7, p8⟩ := PlatV.boxed w p 26
  obtain ⟨q0, q1, q2, q3⟩ := TaskV.boxed (w.alloc (.cells p.arr 26)) t 39
  simp only [World.size_alloc] at q0 q1 q2 q3
  have hx : Ext (w.alloc (.cells p.arr 26)) ((w.alloc (.cells p.arr 26)).alloc (.cells t.arr 39)) := (Ext.refl _).alloc _
  have p0 := hx.cell p0; have p1 := hx.cell p1; have p2 := hx.cell p2; have p3 := hx.cell p3; have p4 := hx.cell p4; have p5 := hx.cell p5; have p6 := hx.cell p6; have p7 := hx.cell p7; have p8 := hx.cell p8
  have hw0 : Ext w ((w.alloc (.cells p.arr 26)).alloc (.cells t.arr 39)) := ((Ext.refl _).alloc _).alloc _
  clear hx
  have hI : (taskB p t = true ∧ taskI p t = 0) ∨ (taskB p t = false ∧ taskI p t = 3) := by
    unfold taskI
    cases taskB p t <;> simp
  generalize taskB p t = b at C3 hI
  generalize taskI p t = i at C2 hI
  generalize tabB p = tb at C1
  unfold PlatV.val TaskV.val
  go_enter Try.func14, Try.ntmps14
  go_wp2_with fail
  refine (C1 _ hw0).mono ?_
  rintro e w1 ⟨rfl, hb1⟩
  cases tb
  · go_wp2_with fail
    refine (answers09 _).mono ?_
    rintro e w2 ⟨rfl, hb2⟩
    go_wp2
    go_ret
    exact ⟨rfl, (hw0.trans hb1).trans hb2⟩
  · have p0 := hb1.cell p0; have p1 := hb1.cell p1; have p2 := hb1.cell p2; have p3 := hb1.cell p3; have p4 := hb1.cell p4; have p5 := hb1.cell p5; have p6 := hb1.cell p6; have p7 := hb1.cell p7; have p8 := hb1.cell p8
    have q0 := hb1.cell q0; have q1 := hb1.cell q1; have q2 := hb1.cell q2; have q3 := hb1.cell q3
    have hw1 := hw0.trans hb1
    clear hb1 hw0 C1
    go_wp2_with fail
    refine (C2 _ hw1).mono ?_
    rintro e w2 ⟨rfl, hb2⟩
    go_wp2_with fail
    refine (answers09 _).mono ?_
    rintro e w3 ⟨rfl, hb3⟩
    have hb := hb2.trans hb3
    have p0 := hb.cell p0; have p1 := hb.cell p1; have p2 := hb.cell p2; have p3 := hb.cell p3; have p4 := hb.cell p4; have p5 := hb.cell p5; have p6 := hb.cell p6; have p7 := hb.cell p7; have p8 := hb.cell p8
    have q0 := hb.cell q0; have q1 := hb.cell q1; have q2 := hb.cell q2; have q3 := hb.cell q3
    have hw2 := hw1.trans hb
    clear hb2 hb3 hb hw1 C2
    rcases hI with ⟨rfl, rfl⟩ | ⟨rfl, rfl⟩
    all_goals
      go_wp2_with fail
      refine (C3 _ hw2).mono ?_
      rintro e w4 ⟨rfl, hb4⟩
      go_wp2
      go_ret
      exact ⟨rfl, hw2.trans hb4⟩
end Go.Proofs.Ytmfphojmegfanaa
