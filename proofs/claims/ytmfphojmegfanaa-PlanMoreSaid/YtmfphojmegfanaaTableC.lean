/- table.Check. -/
import Derived.Test.YtmfphojmegfanaaTableB
import Derived.Deep.DeepCutAuto
namespace Go.Proofs.Ytmfphojmegfanaa
open Go.RowKit
set_option linter.unusedVariables false

noncomputable def sleepB (idle : Int) (s : SleepV) : Bool := awayB s.enter s.exit s.enterE s.exitE s.power idle s.even
noncomputable def devB (d : DeviceV) : Bool := awayB d.down d.up d.downE d.upE d.off d.on d.even
noncomputable def tabB1 (p : PlatV) : Bool := winB p.idle 0 65536 && levelsB p && winB p.switch 0 256 && winB p.switchE 0 65536
noncomputable def tabB2 (p : PlatV) : Bool := tabB1 p && decide (p.sleeps.xs.length ≤ 3) && decide (p.devices.xs.length ≤ 3)
noncomputable def tabB3 (p : PlatV) : Bool := tabB2 p && winB p.sems 0 3 && winB p.horizon 1 16384
noncomputable def tabB (p : PlatV) : Bool := tabB3 p && p.sleeps.xs.all (sleepB p.idle) && p.devices.xs.all devB
noncomputable def checkI (p : PlatV) : Int := if tabB p then 0 else 2

theorem all_snoc {α : Type} (f : α → Bool) (xs : List α) (k : Nat) (hk : k < xs.length) : (xs.take (k + 1)).all f = ((xs.take k).all f && f xs[k]) := by
  rw [List.take_succ_eq_append_getElem hk, List.all_append, List.all_cons, List.all_nil, Bool.and_true]

set_option maxHeartbeats 4000000 in
set_option maxRecDepth 100000 in
theorem check_any (p : PlatV) (w : World) (hp : p.Ok w) : Calls Try.prog 31 #[p.val] w fun e w' => e = .returned (.int .i64 (checkI p)) ∧ Ext w w' := by
  have hrs := hp.sleeps.row
  have hrd := hp.devices.row
  have hfs := hp.sleeps.fit
  have hfd := hp.devices.fit
  obtain ⟨lv, ⟨SA, Sc, ss⟩, ⟨DA, Dc, ds⟩, idle, crit, sw, swE, sems, hz⟩ := p
  dsimp only at hrs hrd hfs hfd
  unfold PlatV.val
  dsimp only
  have HP := Lib.hid hp; clear hp
  go_enter Try.func31, Try.ntmps31
  go_upto_region 1 with fail
  go_cut [3] (fun r wc => r = .bool (tabB1 (⟨lv, ⟨SA, Sc, ss⟩, ⟨DA, Dc, ds⟩, idle, crit, sw, swE, sems, hz⟩ : PlatV)) ∧ Ext (w.alloc (.cells (PlatV.arr (⟨lv, ⟨SA, Sc, ss⟩, ⟨DA, Dc, ds⟩, idle, crit, sw, swE, sems, hz⟩ : PlatV)) 26)) wc)
  case first =>
    cases g1 : winB idle 0 65536
    · go_wp2_with (first | (go_at_call 41; refine (power_any _ _).mono ?_; rintro e w' ⟨rfl, rfl⟩) | (go_at_call 43; refine (latency_any _ _).mono ?_; rintro e w' ⟨rfl, rfl⟩))
      go_meet
      case rel => exact ⟨congrArg Value.bool (by simp [tabB1, g1]), Ext.refl _⟩
    have hi := winB_in g1
    cases g2 : levelsB (⟨lv, ⟨SA, Sc, ss⟩, ⟨DA, Dc, ds⟩, idle, crit, sw, swE, sems, hz⟩ : PlatV)
    · (go_wp2_with (first | (go_at_call 41; refine (power_any _ _).mono ?_; rintro e w' ⟨rfl, rfl⟩) | (go_at_call 43; refine (latency_any _ _).mono ?_; rintro e w' ⟨rfl, rfl⟩) | (go_at_call 42; refine (levels_any (⟨lv, ⟨SA, Sc, ss⟩, ⟨DA, Dc, ds⟩, idle, crit, sw, swE, sems, hz⟩ : PlatV) _ (HP.out.ext ((Ext.refl w).alloc _)) hi).mono ?_; rintro e w1 ⟨rfl, hb1⟩; obtain ⟨hc1, hf1, hs1⟩ := hb1.rules; have HB1 : Ext _ w1 := hb1)))
      go_meet
      case rel => exact ⟨congrArg Value.bool (by simp [tabB1, g1, g2]), (by repeat (first | exact Ext.refl _ | assumption | refine Ext.alloc ?_ _ | refine Ext.drew ?_ | refine Ext.drewN ?_ _ | refine Ext.trans ?_ (by assumption)))⟩
    cases g3 : winB sw 0 256
    · (go_wp2_with (first | (go_at_call 41; refine (power_any _ _).mono ?_; rintro e w' ⟨rfl, rfl⟩) | (go_at_call 43; refine (latency_any _ _).mono ?_; rintro e w' ⟨rfl, rfl⟩) | (go_at_call 42; refine (levels_any (⟨lv, ⟨SA, Sc, ss⟩, ⟨DA, Dc, ds⟩, idle, crit, sw, swE, sems, hz⟩ : PlatV) _ (HP.out.ext ((Ext.refl w).alloc _)) hi).mono ?_; rintro e w1 ⟨rfl, hb1⟩; obtain ⟨hc1, hf1, hs1⟩ := hb1.rules; have HB1 : Ext _ w1 := hb1)))
      go_meet
      case rel => exact ⟨congrArg Value.bool (by simp [tabB1, g3]), (by repeat (first | exact Ext.refl _ | assumption | refine Ext.alloc ?_ _ | refine Ext.drew ?_ | refine Ext.drewN ?_ _ | refine Ext.trans ?_ (by assumption)))⟩
    · (go_wp2_with (first | (go_at_call 41; refine (power_any _ _).mono ?_; rintro e w' ⟨rfl, rfl⟩) | (go_at_call 43; refine (latency_any _ _).mono ?_; rintro e w' ⟨rfl, rfl⟩) | (go_at_call 42; refine (levels_any (⟨lv, ⟨SA, Sc, ss⟩, ⟨DA, Dc, ds⟩, idle, crit, sw, swE, sems, hz⟩ : PlatV) _ (HP.out.ext ((Ext.refl w).alloc _)) hi).mono ?_; rintro e w1 ⟨rfl, hb1⟩; obtain ⟨hc1, hf1, hs1⟩ := hb1.rules; have HB1 : Ext _ w1 := hb1)))
      go_meet
      case rel => exact ⟨congrArg Value.bool (by simp [tabB1, g1, g2, g3]), (by repeat (first | exact Ext.refl _ | assumption | refine Ext.alloc ?_ _ | refine Ext.drew ?_ | refine Ext.drewN ?_ _ | refine Ext.trans ?_ (by assumption)))⟩
  case rest =>
    obtain ⟨rfl, hb⟩ := hcut
    obtain ⟨q0, q1, q2, q3, q4, q5, q6, q7, q8⟩ := PlatV.boxed w (⟨lv, ⟨SA, Sc, ss⟩, ⟨DA, Dc, ds⟩, idle, crit, sw, swE, sems, hz⟩ : PlatV) 26
    have q1 := hb.cell q1
    have q2 := hb.cell q2
    have q3 := hb.cell q3
    have q7 := hb.cell q7
    have q8 := hb.cell q8
    clear q0 q4 q5 q6
    dsimp only at q1 q2 q3 q7 q8
    go_upto_region 2 with fail
    go_cut [3] (fun r w2 => r = .bool (tabB2 (⟨lv, ⟨SA, Sc, ss⟩, ⟨DA, Dc, ds⟩, idle, crit, sw, swE, sems, hz⟩ : PlatV)) ∧ w2 = wc)
    case first =>
      cases g1 : tabB1 (⟨lv, ⟨SA, Sc, ss⟩, ⟨DA, Dc, ds⟩, idle, crit, sw, swE, sems, hz⟩ : PlatV)
      · go_wp2
        go_meet
        case rel => exact ⟨congrArg Value.bool (by simp [tabB2, g1]), rfl⟩
      by_cases g2 : ss.length ≤ 3
      · by_cases g3 : ds.length ≤ 3
        all_goals
          go_wp2
          go_meet
          case rel => exact ⟨congrArg Value.bool (by simp only [tabB2, g1, Bool.true_and]; first | (simp; omega) | (rw [Bool.eq_iff_iff]; simp only [decide_eq_true_eq, Bool.and_eq_true]; omega)), rfl⟩
      · go_wp2
        go_meet
        case rel => exact ⟨congrArg Value.bool (by simp only [tabB2, g1, Bool.true_and]; first | (simp; omega) | (rw [Bool.eq_iff_iff]; simp only [decide_eq_true_eq, Bool.and_eq_true]; omega)), rfl⟩
    case rest =>
      obtain ⟨rfl, rfl⟩ := hcut
      go_upto_region 3 with fail
      go_cut [3] (fun r w3 => r = .bool (tabB3 (⟨lv, ⟨SA, Sc, ss⟩, ⟨DA, Dc, ds⟩, idle, crit, sw, swE, sems, hz⟩ : PlatV)) ∧ w3 = wc)
      case first =>
        cases g1 : tabB2 (⟨lv, ⟨SA, Sc, ss⟩, ⟨DA, Dc, ds⟩, idle, crit, sw, swE, sems, hz⟩ : PlatV)
        · go_wp2
          go_meet
          case rel => exact ⟨congrArg Value.bool (by simp [tabB3, g1]), rfl⟩
        cases g2 : winB sems 0 3
        · go_wp2_with (go_at_call 44; refine (within_any _ _ _ _).mono ?_; rintro e w' ⟨rfl, rfl⟩)
          go_meet
          case rel => exact ⟨congrArg Value.bool (by simp [tabB3, g1, g2]), rfl⟩
        · go_wp2_with (go_at_call 44; refine (within_any _ _ _ _).mono ?_; rintro e w' ⟨rfl, rfl⟩)
          go_meet
          case rel => exact ⟨congrArg Value.bool (by simp [tabB3, g1, g2]), rfl⟩
      case rest =>
        obtain ⟨rfl, rfl⟩ := hcut
        have hww : Ext w wc := ((Ext.refl w).alloc _).trans hb
        obtain ⟨T, hT⟩ : ∃ T, T = tabB3 (⟨lv, ⟨SA, Sc, ss⟩, ⟨DA, Dc, ds⟩, idle, crit, sw, swE, sems, hz⟩ : PlatV) := ⟨_, rfl⟩
        rw [← hT]
        have hfin : ∀ x : Bool, x = (T && ss.all (sleepB idle) && ds.all devB) → (if x then 0 else 2) = checkI (⟨lv, ⟨SA, Sc, ss⟩, ⟨DA, Dc, ds⟩, idle, crit, sw, swE, sems, hz⟩ : PlatV) := by
          intro x hx
          rw [hx, hT]
          rfl
        have HFIN := Lib.hid hfin; clear hfin
        clear hT
        go_wp2
        go_loopw [3, 5, 52] (fun r _ i wr => ∃ (k : Nat) (x : Bool), k ≤ ss.length ∧ i = .int .i64 k ∧ r = .bool x ∧ Hid (x = (T && (ss.take k).all (sleepB idle))) ∧ Ext wc wr) (fun _ _ i _ => ss.length - (intOf i).toNat)
        case atStart => exact ⟨0, T, by omega, rfl, rfl, (by simp : T = (T && (ss.take 0).all (sleepB idle))), Ext.refl _⟩
        case round =>
          obtain ⟨k, x, hk, rfl, rfl, hx, hr⟩ := hrel
          have hw : Ext w wr := hww.trans hr
          have q2 := hr.cell q2
          have q3 := hr.cell q3
          have qz : w.heap.size < wr.heap.size := by have := hb.size; simp only [World.size_alloc] at this; have := hr.size; omega
          by_cases hlt : k < ss.length
          · obtain ⟨b, o, rfl, ub, u0, u1, u2, u3, u4, u5⟩ := SleepV.row (hrs.ext hw) k hlt
            have hsn := all_snoc (sleepB idle) ss k hlt
            have HS := Lib.hid hsn; clear hsn
            cases x
            · go_wp2
              go_roundw
              case rel => exact ⟨k + 1, false, by omega, by go_num, rfl, (by have := hx.out; rw [HS.out, ← Bool.and_assoc, ← this]; rfl : false = (T && (ss.take (k + 1)).all (sleepB idle))), (by repeat (first | exact Ext.refl _ | assumption | refine Ext.alloc ?_ _ | refine Ext.drew ?_ | refine Ext.drewN ?_ _ | refine Ext.trans ?_ (by assumption)))⟩
              case measure => simp [intOf]; omega
            · go_wp2_with (go_at_call 45; refine (away_any _ _ _ _ _ _ _ _).mono ?_; rintro e w' ⟨rfl, rfl⟩)
              go_roundw
              case rel => exact ⟨k + 1, _, by omega, by go_num, rfl, (by have := hx.out; rw [HS.out, ← Bool.and_assoc, ← this]; rfl : awayB _ _ _ _ _ _ _ = (T && (ss.take (k + 1)).all (sleepB idle))), (by repeat (first | exact Ext.refl _ | assumption | refine Ext.alloc ?_ _ | refine Ext.drew ?_ | refine Ext.drewN ?_ _ | refine Ext.trans ?_ (by assumption)))⟩
              case measure => simp [intOf]; omega
          · have hks : k = ss.length := by omega
            subst hks
            have hx1 : x = (T && ss.all (sleepB idle)) := by have := hx.out; rw [List.take_length] at this; exact this
            have HX := Lib.hid hx1; clear hx1 hx
            go_wp2
            go_loopw [3, 7, 78] (fun r _ i wr2 => ∃ (k : Nat) (y : Bool), k ≤ ds.length ∧ i = .int .i64 k ∧ r = .bool y ∧ Hid (y = (x && (ds.take k).all devB)) ∧ Ext w wr2) (fun _ _ i _ => ds.length - (intOf i).toNat)
            case atStart => exact ⟨0, x, by omega, rfl, rfl, (by simp : x = (x && (ds.take 0).all devB)), hw⟩
            case round =>
              obtain ⟨k, y, hk, rfl, rfl, hy, hr⟩ := hrel
              by_cases hlt : k < ds.length
              · obtain ⟨b, o, rfl, ub, u0, u1, u2, u3, u4, u5, u6⟩ := DeviceV.row (hrd.ext hr) k hlt
                have hsn := all_snoc devB ds k hlt
                have HS := Lib.hid hsn; clear hsn
                cases y
                · go_wp2
                  go_roundw
                  case rel => exact ⟨k + 1, false, by omega, by go_num, rfl, (by have := hy.out; rw [HS.out, ← Bool.and_assoc, ← this]; rfl : false = (x && (ds.take (k + 1)).all devB)), (by repeat (first | exact Ext.refl _ | assumption | refine Ext.alloc ?_ _ | refine Ext.drew ?_ | refine Ext.drewN ?_ _ | refine Ext.trans ?_ (by assumption)))⟩
                  case measure => simp [intOf]; omega
                · go_wp2_with (go_at_call 45; refine (away_any _ _ _ _ _ _ _ _).mono ?_; rintro e w' ⟨rfl, rfl⟩)
                  go_roundw
                  case rel => exact ⟨k + 1, _, by omega, by go_num, rfl, (by have := hy.out; rw [HS.out, ← Bool.and_assoc, ← this]; rfl : awayB _ _ _ _ _ _ _ = (x && (ds.take (k + 1)).all devB)), (by repeat (first | exact Ext.refl _ | assumption | refine Ext.alloc ?_ _ | refine Ext.drew ?_ | refine Ext.drewN ?_ _ | refine Ext.trans ?_ (by assumption)))⟩
                  case measure => simp [intOf]; omega
              · have hks : k = ds.length := by omega
                subst hks
                have hy1 : y = (T && ss.all (sleepB idle) && ds.all devB) := by have := hy.out; rw [List.take_length, HX.out] at this; exact this
                have hz := HFIN.out y hy1
                have HZ := Lib.hid hz; clear hz hy1 hy
                cases y
                all_goals
                  go_wp2
                  go_ret
                  exact ⟨ret_int HZ.out, (by repeat (first | exact Ext.refl _ | assumption | refine Ext.alloc ?_ _ | refine Ext.drew ?_ | refine Ext.drewN ?_ _ | refine Ext.trans ?_ (by assumption)))⟩
end Go.Proofs.Ytmfphojmegfanaa
