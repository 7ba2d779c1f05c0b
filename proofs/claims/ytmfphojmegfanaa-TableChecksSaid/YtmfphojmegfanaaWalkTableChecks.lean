/- the law TableChecks, walked. -/
import Derived.Test.YtmfphojmegfanaaTableA
import Derived.Test.YtmfphojmegfanaaTableS
namespace Go.Proofs.Ytmfphojmegfanaa
open Go.RowKit
set_option linter.unusedVariables false
set_option maxHeartbeats 2000000 in
theorem walk_TableChecks (p : PlatV) (w : World) (hp : p.Arg w) : Calls Try.prog 9 #[p.val] w fun e w' => e = .returned (.bool true) ∧ Ext w w' := by
  have hk := hp.ok
  clear hp
  have hw0 : Ext w (w.alloc (.cells p.arr 26)) := (Ext.refl w).alloc _
  unfold PlatV.val
  have hq := PlatV.boxed w p 26
  have HQ := Lib.hid hq; clear hq
  cases g1 : tabB p
  all_goals
    have hci : checkI p = if tabB p then 0 else 2 := rfl
    rw [g1] at hci
    simp only [Bool.false_eq_true, if_false, if_true] at hci
    have HCI := Lib.hid hci; clear hci
    have HK := Lib.hid hk; clear hk
    go_enter Try.func9, Try.ntmps9
    go_wp2_with fail
    refine (check_any p _ (HK.out.ext (by repeat (first | exact Ext.refl _ | assumption | refine Ext.alloc ?_ _ | refine Ext.drew ?_ | refine Ext.drewN ?_ _ | refine Ext.trans ?_ (by assumption))))).mono ?_
    rintro e w1 ⟨rfl, hb1⟩
    rw [HCI.out]
    go_wp2_with fail
    refine (answers04 _).mono ?_
    rintro e w2 ⟨rfl, hb2⟩
    obtain ⟨hc1, hf1, hs1⟩ := (Ext.trans hb1 hb2).rules
    go_wp2_with fail
    refine (rtable_any p _ (HK.out.ext (by repeat (first | exact Ext.refl _ | assumption | refine Ext.alloc ?_ _ | refine Ext.drew ?_ | refine Ext.drewN ?_ _ | refine Ext.trans ?_ (by assumption))))).mono ?_
    rintro e w3 ⟨rfl, hb3⟩
    go_wp2
    go_ret
    exact ⟨rfl, (by repeat (first | exact Ext.refl _ | assumption | refine Ext.alloc ?_ _ | refine Ext.drew ?_ | refine Ext.drewN ?_ _ | refine Ext.trans ?_ (by assumption)))⟩
end Go.Proofs.Ytmfphojmegfanaa
