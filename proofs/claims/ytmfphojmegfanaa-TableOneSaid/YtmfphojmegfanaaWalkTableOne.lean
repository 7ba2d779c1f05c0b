/- the law TableOne, walked. -/
import Derived.Test.YtmfphojmegfanaaTableA
namespace Go.Proofs.Ytmfphojmegfanaa
open Go.RowKit
set_option linter.unusedVariables false
theorem checkI_no {p : PlatV} (h : ¬ tabP p) : checkI p = 2 := by
  unfold checkI
  rw [if_neg (fun hh => h ((tabB_iff p).1 hh))]
set_option maxHeartbeats 8000000 in
theorem walk_TableOne (p : PlatV) (what : Int) (low : Bool) (w : World) (hp : p.Arg w) (hw : 0 ≤ what ∧ what ≤ 255) : Calls Try.prog 13 #[p.val, .int .u8 what, .bool low] w fun e w' => e = .returned (.bool true) ∧ Ext w w' := by
  have hk := hp.ok
  clear hp
  obtain ⟨lv, sl, dv, idle, crit, sw, swE, sems, hz⟩ := p
  have z1 : I64 (-1) := ⟨by decide, by decide⟩
  have z2 : I64 65537 := ⟨by decide, by decide⟩
  have Z1 := Lib.hid z1; have Z2 := Lib.hid z2; clear z1 z2
  obtain ⟨hw1, hw2⟩ := hw
  unfold PlatV.val
  dsimp only
  have hcases : what.tmod 6 = 0 ∨ what.tmod 6 = 1 ∨ what.tmod 6 = 2 ∨ what.tmod 6 = 3 ∨ what.tmod 6 = 4 ∨ what.tmod 6 = 5 := by
    have : what.tmod 6 = what % 6 := Int.tmod_eq_emod_of_nonneg hw1
    omega
  generalize hr : what.tmod 6 = r at *
  have HR := Lib.hid hr; clear hr
  cases low
  all_goals
    rcases hcases with rfl | rfl | rfl | rfl | rfl | rfl
    all_goals
      have hr2 := HR.out
      have HK := Lib.hid hk; clear hk
      go_enter Try.func13, Try.ntmps13
      go_wp2_with fail
      refine (answers04 _).mono ?_
      rintro e w1 ⟨rfl, hb1⟩
      obtain ⟨hc1, hf1, hs1⟩ := hb1.rules
      go_wp2_with fail
      refine (check_any ⟨lv, sl, dv, _, _, _, _, _, _⟩ _ (by refine PlatV.Ok.ext (w := w) ⟨HK.out.levels, HK.out.sleeps, HK.out.devices, ?_, ?_, ?_, ?_, ?_, ?_⟩ (by repeat (first | exact Ext.refl _ | assumption | refine Ext.alloc ?_ _ | refine Ext.drew ?_ | refine Ext.drewN ?_ _ | refine Ext.trans ?_ (by assumption))) <;> first | exact Z1.out | exact Z2.out | exact HK.out.idle | exact HK.out.crit | exact HK.out.switch | exact HK.out.switchE | exact HK.out.sems | exact HK.out.horizon)).mono ?_
      rintro e w2 ⟨rfl, hb2⟩
      rw [checkI_no (by rintro ⟨⟨⟨x1, x2⟩, ⟨x3, x4⟩, ⟨x5, x6⟩, ⟨x7, x8⟩, x9, x10⟩, ⟨y1, y2, ⟨y3, y4⟩, y5, y6⟩, _⟩; dsimp only at x1 x2 x3 x4 x5 x6 x7 x8 x9 x10 y3 y4 y5 y6; omega)]
      clear hc1 hf1 hs1
      go_wp2
      go_ret
      exact ⟨rfl, (by repeat (first | exact Ext.refl _ | assumption | refine Ext.alloc ?_ _ | refine Ext.drew ?_ | refine Ext.drewN ?_ _ | refine Ext.trans ?_ (by assumption)))⟩
end Go.Proofs.Ytmfphojmegfanaa
