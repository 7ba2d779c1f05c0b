/- the reference's Table. -/
import Derived.Test.YtmfphojmegfanaaTableC
import Derived.StillTailTactics
namespace Go.Proofs.Ytmfphojmegfanaa
open Go.RowKit
set_option linter.unusedVariables false

theorem rsleep_any (s : SleepV) (idle : Int) (w : World) : Calls Try.prog 46 #[s.val, .int .i64 idle] w fun e w' => e = .returned (.bool (sleepB idle s)) ∧ Ext w w' := by
  unfold SleepV.val
  go_enter Try.func46, Try.ntmps46
  go_wp2_with (go_at_call 55; refine (raway_any _ _ _ _ _ _ _ _).mono ?_; rintro e w' ⟨rfl, rfl⟩)
  go_ret
  exact ⟨rfl, (by repeat (first | exact Ext.refl _ | assumption | refine Ext.alloc ?_ _ | refine Ext.drew ?_ | refine Ext.drewN ?_ _ | refine Ext.trans ?_ (by assumption)))⟩
theorem rdevice_any (s : DeviceV) (w : World) : Calls Try.prog 47 #[s.val] w fun e w' => e = .returned (.bool (devB s)) ∧ Ext w w' := by
  unfold DeviceV.val
  go_enter Try.func47, Try.ntmps47
  go_wp2_with (go_at_call 55; refine (raway_any _ _ _ _ _ _ _ _).mono ?_; rintro e w' ⟨rfl, rfl⟩)
  go_ret
  exact ⟨rfl, (by repeat (first | exact Ext.refl _ | assumption | refine Ext.alloc ?_ _ | refine Ext.drew ?_ | refine Ext.drewN ?_ _ | refine Ext.trans ?_ (by assumption)))⟩

def tabP1 (p : PlatV) : Prop := (1 ≤ p.levels.xs.length ∧ p.levels.xs.length ≤ 4) ∧ (0 ≤ p.idle ∧ p.idle ≤ 65536) ∧ (0 ≤ p.crit ∧ p.crit < p.levels.xs.length) ∧ (0 ≤ p.switch ∧ p.switch ≤ 256) ∧ (0 ≤ p.switchE ∧ p.switchE ≤ 65536)
def tabP2 (p : PlatV) : Prop := p.sleeps.xs.length ≤ 3 ∧ p.devices.xs.length ≤ 3 ∧ (0 ≤ p.sems ∧ p.sems ≤ 3) ∧ (1 ≤ p.horizon ∧ p.horizon ≤ 16384)
def tabP3 (p : PlatV) : Prop := ∀ n, n < p.levels.xs.length → lvlOk p.idle p.crit p.levels.xs n
def tabP (p : PlatV) : Prop := tabP1 p ∧ tabP2 p ∧ tabP3 p ∧ (∀ s ∈ p.sleeps.xs, sleepB p.idle s = true) ∧ (∀ d ∈ p.devices.xs, devB d = true)
theorem tabB_iff (p : PlatV) : tabB p = true ↔ tabP p := by
  simp only [tabB, tabB3, tabB2, tabB1, Bool.and_eq_true, winB_iff, levelsB_iff, levelsP, decide_eq_true_eq, List.all_eq_true, tabP, tabP1, tabP2, tabP3]
  constructor
  · rintro ⟨⟨⟨⟨⟨⟨⟨⟨⟨h1, h2⟩, h3⟩, h4⟩, h5⟩, h6⟩, h7⟩, h8⟩, h9⟩, h10⟩
    exact ⟨⟨⟨h2.1, h2.2.1⟩, h1, ⟨h2.2.2.1, by have := h2.2.2.2.1; omega⟩, h3, h4⟩, ⟨h5, h6, h7, h8⟩, h2.2.2.2.2, h9, h10⟩
  · rintro ⟨⟨⟨h1, h2⟩, h3, ⟨h4, h5⟩, h6, h7⟩, ⟨h8, h9, h10, h11⟩, h12, h13, h14⟩
    exact ⟨⟨⟨⟨⟨⟨⟨⟨⟨h3, h1, h2, h4, by omega, h12⟩, h6⟩, h7⟩, h8⟩, h9⟩, h10⟩, h11⟩, h13⟩, h14⟩
theorem tabB_no {p : PlatV} (h : ¬ tabP p) : false = tabB p := by
  cases h1 : tabB p
  · rfl
  · exact absurd ((tabB_iff p).1 h1) h
theorem tabB_yes {p : PlatV} (h : tabP p) : true = tabB p := ((tabB_iff p).2 h).symm
theorem lvl_not {idle crit : Int} {xs : List LevelV} {k : Nat} (hk : k < xs.length) (h : ¬ ((1 ≤ xs[k].P ∧ xs[k].P ≤ 256) ∧ (0 ≤ xs[k].E ∧ xs[k].E ≤ 65536))) : ¬ lvlOk idle crit xs k := fun hh => by
  obtain ⟨h1, h2, _⟩ := hh xs[k] (List.getElem?_eq_getElem hk)
  exact h ⟨h1, h2⟩

set_option maxHeartbeats 8000000 in
set_option maxRecDepth 100000 in
theorem rtable_no1 (p : PlatV) (w : World) (h1 : ¬ tabP1 p) : Calls Try.prog 33 #[p.val] w fun e w' => e = .returned (.bool false) ∧ Ext w w' := by
  obtain ⟨⟨LA, Lc, lv⟩, ⟨SA, Sc, ss⟩, ⟨DA, Dc, ds⟩, idle, crit, sw, swE, sems, hz⟩ := p
  unfold PlatV.val
  dsimp only
  have H1 := Lib.hid h1; clear h1
  go_enter Try.func33, Try.ntmps33
  go_upto_region 1 with fail
  go_cut [59] (fun r wc => r = .bool true ∧ Ext w wc)
  case first =>
    go_wp2
    all_goals
      go_meet
      case rel => first | exact ⟨rfl, (by repeat (first | exact Ext.refl _ | assumption | refine Ext.alloc ?_ _ | refine Ext.drew ?_ | refine Ext.drewN ?_ _ | refine Ext.trans ?_ (by assumption)))⟩ | exact ⟨congrArg Value.bool (by simp only [Bool.or_eq_true, decide_eq_true_eq]; exact Classical.byContradiction fun hh => H1.out ⟨⟨by dsimp only; omega, by dsimp only; omega⟩, ⟨by dsimp only; omega, by dsimp only; omega⟩, ⟨by dsimp only; omega, by dsimp only; omega⟩, ⟨by dsimp only; omega, by dsimp only; omega⟩, ⟨by dsimp only; omega, by dsimp only; omega⟩⟩), (by repeat (first | exact Ext.refl _ | assumption | refine Ext.alloc ?_ _ | refine Ext.drew ?_ | refine Ext.drewN ?_ _ | refine Ext.trans ?_ (by assumption)))⟩
  case rest =>
    obtain ⟨rfl, hb⟩ := hcut
    go_wp2
    go_ret
    exact ⟨rfl, hb⟩
set_option maxHeartbeats 8000000 in
set_option maxRecDepth 100000 in
theorem rtable_no2 (p : PlatV) (w : World) (h1 : tabP1 p) (h2 : ¬ tabP2 p) : Calls Try.prog 33 #[p.val] w fun e w' => e = .returned (.bool false) ∧ Ext w w' := by
  obtain ⟨⟨LA, Lc, lv⟩, ⟨SA, Sc, ss⟩, ⟨DA, Dc, ds⟩, idle, crit, sw, swE, sems, hz⟩ := p
  unfold PlatV.val
  dsimp only
  obtain ⟨⟨a1, a2⟩, ⟨a3, a4⟩, ⟨a5, a6⟩, ⟨a7, a8⟩, a9, a10⟩ := id h1
  clear h1
  dsimp only at a1 a2 a3 a4 a5 a6 a7 a8 a9 a10
  have H2 := Lib.hid h2; clear h2
  go_enter Try.func33, Try.ntmps33
  go_upto_region 3 with fail
  go_cut [89] (fun r wc => r = .bool true ∧ Ext w wc)
  case first =>
    go_wp2
    all_goals
      go_meet
      case rel => first | exact ⟨rfl, (by repeat (first | exact Ext.refl _ | assumption | refine Ext.alloc ?_ _ | refine Ext.drew ?_ | refine Ext.drewN ?_ _ | refine Ext.trans ?_ (by assumption)))⟩ | exact ⟨congrArg Value.bool (by simp only [Bool.or_eq_true, decide_eq_true_eq]; exact Classical.byContradiction fun hh => H2.out ⟨by dsimp only; omega, by dsimp only; omega, ⟨by dsimp only; omega, by dsimp only; omega⟩, by dsimp only; omega, by dsimp only; omega⟩), (by repeat (first | exact Ext.refl _ | assumption | refine Ext.alloc ?_ _ | refine Ext.drew ?_ | refine Ext.drewN ?_ _ | refine Ext.trans ?_ (by assumption)))⟩
  case rest =>
    obtain ⟨rfl, hb⟩ := hcut
    go_wp2
    go_ret
    exact ⟨rfl, hb⟩
end Go.Proofs.Ytmfphojmegfanaa
