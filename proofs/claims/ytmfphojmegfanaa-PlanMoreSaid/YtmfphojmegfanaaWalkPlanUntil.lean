/- the law PlanUntil, walked. -/
import Derived.Test.YtmfphojmegfanaaPlanA
import Derived.Test.YtmfphojmegfanaaGood
import Derived.Deep.RegionHeld3
namespace Go.Proofs.Ytmfphojmegfanaa
open Go.RowKit
set_option linter.unusedVariables false
theorem GoodP.jobsIn {v : ViewV} (h : GoodP v) : JobsIn v.tasks.xs v.jobs.xs := by
  refine ⟨fun j hj => ?_, fun j hj => ?_⟩
  · obtain ⟨k, hk, rfl⟩ := List.mem_iff_getElem.1 hj
    exact (h.job k _ (List.getElem?_eq_getElem hk)).lo
  · obtain ⟨k, hk, rfl⟩ := List.mem_iff_getElem.1 hj
    exact (h.job k _ (List.getElem?_eq_getElem hk)).hi
theorem ViewV.q {w w1 : World} (v : ViewV) (t : TypeId) (h : Ext (w.alloc (.cells v.arr t)) w1) :
    w1.cell? ⟨w.heap.size, 9, none⟩ = some (.slice v.tasks.A v.tasks.xs.length v.tasks.c) ∧ w1.cell? ⟨w.heap.size, 10, none⟩ = some (.slice v.next.A v.next.xs.length v.next.c) ∧
    w1.cell? ⟨w.heap.size, 11, none⟩ = some (.slice v.jobs.A v.jobs.xs.length v.jobs.c) ∧ w1.cell? ⟨w.heap.size, 13, none⟩ = some (.int .i64 v.now) := by
  obtain ⟨_, _, _, _, _, _, _, _, _, q9, q10, q11, _, q13, _⟩ := ViewV.boxed w v t
  exact ⟨h.cell q9, h.cell q10, h.cell q11, h.cell q13⟩
set_option maxHeartbeats 4000000 in
theorem walk_PlanUntil (v : ViewV) (d : Int) (w : World) (hv : v.Arg w) (hd : I64 d) : Calls Try.prog 3 #[v.val, .int .i64 d] w fun e w' => e = .returned (.bool true) ∧ Ext w w' := by
  have hk := hv.ok
  clear hv hd
  have HK := Lib.hid hk; clear hk
  have hq := fun w1 => ViewV.q (w := w) (w1 := w1) v 32
  have HQ := Lib.hid hq; clear hq
  unfold ViewV.val
  go_enter Try.func3, Try.ntmps3
  go_wp2_with fail
  refine (good_any v _ (HK.out.ext (by repeat (first | exact Ext.refl _ | assumption | refine Ext.alloc ?_ _ | refine Ext.drew ?_ | refine Ext.drewN ?_ _ | refine Ext.trans ?_ (by assumption))))).mono ?_
  rintro e w1 ⟨b, rfl, hg, hb1⟩
  have HG := Lib.hid hg; clear hg
  cases b
  · go_wp2_with fail
    refine (answers18 _).mono ?_
    rintro e w2 ⟨rfl, hb2⟩
    go_wp2
    go_ret
    exact ⟨rfl, (by repeat (first | exact Ext.refl _ | assumption | refine Ext.alloc ?_ _ | refine Ext.drew ?_ | refine Ext.drewN ?_ _ | refine Ext.trans ?_ (by assumption)))⟩
  · have hg := HG.out rfl
    have hji := hg.jobsIn
    have HJI := Lib.hid hji
    have hnn := hg.nn
    have HNN := Lib.hid hnn
    have hlj : v.jobs.xs.length ≤ 4611686018427387904 := by have := HK.out.jobs.fit; omega
    clear hg hji hnn HG
    obtain ⟨q9, q10, q11, q13⟩ := HQ.out w1 hb1
    have hw1 : Ext w w1 := ((Ext.refl w).alloc _).trans hb1
    have hlt := hb1.lt
    clear hb1
    generalize hu : untilF v.tasks.xs v.next.xs v.jobs.xs d v.now = u
    have HU := Lib.hid hu; clear hu
    go_wp2
    go_region_held3 (fun w' => w'.cell? ⟨w.heap.size, 9, none⟩ = some (.slice v.tasks.A v.tasks.xs.length v.tasks.c) ∧ w'.cell? ⟨w.heap.size, 10, none⟩ = some (.slice v.next.A v.next.xs.length v.next.c) ∧
    w'.cell? ⟨w.heap.size, 11, none⟩ = some (.slice v.jobs.A v.jobs.xs.length v.jobs.c) ∧ w'.cell? ⟨w.heap.size, 13, none⟩ = some (.int .i64 v.now) ∧ Ext w w')
      (first | exact ⟨q9, q10, q11, q13, hw1.drew⟩ | (go_split_ands; refine ⟨hbx.cell ?_, hbx.cell ?_, hbx.cell ?_, hbx.cell ?_, Ext.trans ?_ hbx⟩ <;> assumption))
      (first
        | (go_at_call 16; refine (answers18 _).mono ?_; rintro e w9 ⟨rfl, hbx⟩)
        | (go_at_call 17; go_split_ands; refine (until_any _ _ _ _ _ _ v.tasks.xs v.next.xs v.jobs.xs d v.now _ (HK.out.tasks.ext (by assumption) (fun _ q => q.ext (by assumption))) HNN.out (HK.out.next.row.ext (by assumption)) (HK.out.jobs.row.ext (by assumption)) hlj HJI.out).mono ?_; rw [HU.out]; rintro e w9 ⟨rfl, hbx⟩)
        | (go_at_call 18; go_split_ands; refine (runtil_any _ _ _ _ _ _ v.tasks.xs v.next.xs v.jobs.xs d v.now _ (HK.out.tasks.ext (by assumption) (fun _ q => q.ext (by assumption))) HNN.out (HK.out.next.row.ext (by assumption)) (HK.out.jobs.row.ext (by assumption)) hlj HJI.out).mono ?_; rw [HU.out]; rintro e w9 ⟨rfl, hbx⟩))
    go_split_ands
    go_wp2
    go_ret
    exact ⟨ret_bool (by simp), by assumption⟩
end Go.Proofs.Ytmfphojmegfanaa
