/- the reference's Table: the loops. -/
import Derived.Test.YtmfphojmegfanaaTableR
import Derived.BigQuiet
import Derived.StillTailTactics
import Derived.Deep.QuietTactic
namespace Go.Proofs.Ytmfphojmegfanaa
open Go.RowKit
set_option linter.unusedVariables false
set_option maxHeartbeats 8000000 in
set_option maxRecDepth 100000 in
theorem rtable_yes (p : PlatV) (w : World) (hp : p.Ok w) (h1 : tabP1 p) (h2 : tabP2 p) : Calls Try.prog 33 #[p.val] w fun e w' => e = .returned (.bool (tabB p)) ∧ Ext w w' := by
  have hrl := hp.levels.row
  have hrs := hp.sleeps.row
  have hrd := hp.devices.row
  have hfs := hp.sleeps.fit
  have hfd := hp.devices.fit
  obtain ⟨⟨LA, Lc, lv⟩, ⟨SA, Sc, ss⟩, ⟨DA, Dc, ds⟩, idle, crit, sw, swE, sems, hz⟩ := p
  clear hp
  dsimp only at hrl hrs hrd hfs hfd
  obtain ⟨⟨a1, a2⟩, ⟨a3, a4⟩, ⟨a5, a6⟩, ⟨a7, a8⟩, a9, a10⟩ := id h1
  have H1 := Lib.hid h1; clear h1
  dsimp only at a1 a2 a3 a4 a5 a6 a7 a8 a9 a10
  obtain ⟨b1, b2, ⟨b3, b4⟩, b5, b6⟩ := id h2
  have H2 := Lib.hid h2; clear h2
  dsimp only at b1 b2 b3 b4 b5 b6
  unfold PlatV.val
  dsimp only
  have f1 : decide ((lv.length : Int) < 1) = false := decide_eq_false (by omega)
  have f2 : decide (4 < (lv.length : Int)) = false := decide_eq_false (by omega)
  have f3 : decide (idle < 0) = false := decide_eq_false (by omega)
  have f4 : decide (65536 < idle) = false := decide_eq_false (by omega)
  have f5 : decide (crit < 0) = false := decide_eq_false (by omega)
  have f6 : decide ((lv.length : Int) ≤ crit) = false := decide_eq_false (by omega)
  have f7 : decide (sw < 0) = false := decide_eq_false (by omega)
  have f8 : decide (256 < sw) = false := decide_eq_false (by omega)
  have f9 : decide (swE < 0) = false := decide_eq_false (by omega)
  have f10 : decide (65536 < swE) = false := decide_eq_false (by omega)
  have g1 : decide (3 < (ss.length : Int)) = false := decide_eq_false (by omega)
  have g2 : decide (3 < (ds.length : Int)) = false := decide_eq_false (by omega)
  have g3 : decide (sems < 0) = false := decide_eq_false (by omega)
  have g4 : decide (3 < sems) = false := decide_eq_false (by omega)
  have g5 : decide (hz < 1) = false := decide_eq_false (by omega)
  have g6 : decide (16384 < hz) = false := decide_eq_false (by omega)
  go_enter Try.func33, Try.ntmps33
  go_wp2
  clear f1 f2 f3 f4 f5 f6 f7 f8 f9 f10 g1 g2 g3 g4 g5 g6
  go_loopw [2, 3, 4] (fun r i _ wr => ∃ k : Nat, k ≤ lv.length ∧ i = .int .i64 k ∧ r = .bool false ∧ Ext (w.alloc (.cells (PlatV.arr (⟨⟨LA, Lc, lv⟩, ⟨SA, Sc, ss⟩, ⟨DA, Dc, ds⟩, idle, crit, sw, swE, sems, hz⟩ : PlatV)) 26)) wr ∧ Hid (∀ n, n < k → lvlOk idle crit lv n)) (fun _ i _ _ => lv.length - (intOf i).toNat)
  case atStart => exact ⟨0, by omega, rfl, rfl, Ext.refl _, fun n hn => absurd hn (by omega)⟩
  case round =>
    obtain ⟨k, hk, rfl, rfl, hb, HALL⟩ := hrel
    have hw : Ext w wr := ((Ext.refl w).alloc _).trans hb
    obtain ⟨q0, q1, q2, q3, q4, q5, q6, q7, q8⟩ := PlatV.boxed w (⟨⟨LA, Lc, lv⟩, ⟨SA, Sc, ss⟩, ⟨DA, Dc, ds⟩, idle, crit, sw, swE, sems, hz⟩ : PlatV) 26
    have q0 := hb.cell q0
    have q3 := hb.cell q3
    have q4 := hb.cell q4
    have qz : w.heap.size < wr.heap.size := by have := hb.size; simp only [World.size_alloc] at this; omega
    clear q1 q2 q5 q6 q7 q8
    dsimp only at q0 q3 q4
    by_cases hlt : k < lv.length
    · obtain ⟨b, o, rfl, ub, u0, u1⟩ := LevelV.row (hrl.ext hw) k hlt
      by_cases t1 : lv[k].P < 1
      · have hd1 : decide (lv[k].P < 1) = true := decide_eq_true t1
        (go_wp2; go_quiet (fail); go_wp2)
        go_ret
        exact ⟨ret_bool (tabB_no fun h => lvl_not hlt (by omega) (h.2.2.1 k hlt)), (by repeat (first | exact Ext.refl _ | assumption | refine Ext.alloc ?_ _ | refine Ext.drew ?_ | refine Ext.drewN ?_ _ | refine Ext.trans ?_ (by assumption)))⟩
      have hd1 : decide (lv[k].P < 1) = false := decide_eq_false t1
      by_cases t2 : 256 < lv[k].P
      · have hd2 : decide (256 < lv[k].P) = true := decide_eq_true t2
        (go_wp2; go_quiet (fail); go_wp2)
        go_ret
        exact ⟨ret_bool (tabB_no fun h => lvl_not hlt (by omega) (h.2.2.1 k hlt)), (by repeat (first | exact Ext.refl _ | assumption | refine Ext.alloc ?_ _ | refine Ext.drew ?_ | refine Ext.drewN ?_ _ | refine Ext.trans ?_ (by assumption)))⟩
      have hd2 : decide (256 < lv[k].P) = false := decide_eq_false t2
      by_cases t3 : lv[k].E < 0
      · have hd3 : decide (lv[k].E < 0) = true := decide_eq_true t3
        (go_wp2; go_quiet (fail); go_wp2)
        go_ret
        exact ⟨ret_bool (tabB_no fun h => lvl_not hlt (by omega) (h.2.2.1 k hlt)), (by repeat (first | exact Ext.refl _ | assumption | refine Ext.alloc ?_ _ | refine Ext.drew ?_ | refine Ext.drewN ?_ _ | refine Ext.trans ?_ (by assumption)))⟩
      have hd3 : decide (lv[k].E < 0) = false := decide_eq_false t3
      by_cases t4 : 65536 < lv[k].E
      · have hd4 : decide (65536 < lv[k].E) = true := decide_eq_true t4
        (go_wp2; go_quiet (fail); go_wp2)
        go_ret
        exact ⟨ret_bool (tabB_no fun h => lvl_not hlt (by omega) (h.2.2.1 k hlt)), (by repeat (first | exact Ext.refl _ | assumption | refine Ext.alloc ?_ _ | refine Ext.drew ?_ | refine Ext.drewN ?_ _ | refine Ext.trans ?_ (by assumption)))⟩
      have hd4 : decide (65536 < lv[k].E) = false := decide_eq_false t4
      have w1 : winB lv[k].P 1 256 = true := winB_iff.2 (by omega)
      have w2 : winB lv[k].E 0 65536 = true := winB_iff.2 (by omega)
      have W1 := Lib.hid w1; have W2 := Lib.hid w2; clear w1 w2
      cases k with
      | zero =>
        simp only [Nat.zero_mul, Nat.add_zero] at u0 u1
        go_wp2
        go_quiet (fail)
        go_wp2
        go_quiet (fail)
        go_wp2
        go_roundw
        case rel => exact ⟨1, by omega, by go_num, rfl, (by repeat (first | exact Ext.refl _ | assumption | refine Ext.alloc ?_ _ | refine Ext.drew ?_ | refine Ext.drewN ?_ _ | refine Ext.trans ?_ (by assumption))), lvl_more (k := 0) HALL.out (lvl_zero hlt W1.out W2.out)⟩
        case measure => simp [intOf]; omega
      | succ m =>
        obtain ⟨⟨y1, y2⟩, ⟨y3, y4⟩, _⟩ := HALL.out m (by omega) _ (List.getElem?_eq_getElem (by omega))
        obtain ⟨_, _, hA', _, u2, u3⟩ := LevelV.row (hrl.ext hw) m (by omega)
        cases hA'
        have m1 := mul_bd (show 0 ≤ lv[m + 1].P by omega) (show lv[m + 1].P ≤ 256 by omega) a3 a4
        have m2 := mul_bd (show 0 ≤ lv[m].P by omega) y2 a3 a4
        have hls : lvlOk idle crit lv (m + 1) → _ := lvl_step hlt
        have hls2 := lvl_succ (idle := idle) (crit := crit) hlt W1.out W2.out
        generalize hx : lv[m + 1].P * idle = xx at *
        generalize hy : lv[m].P * idle = yy at *
        obtain ⟨m1, m1'⟩ := m1
        obtain ⟨m2, m2'⟩ := m2
        have HLS := Lib.hid hls; clear hls
        have HLS2 := Lib.hid hls2; clear hls2
        by_cases t5 : lv[m + 1].P ≤ lv[m].P
        · have hd5 : decide (lv[m + 1].P ≤ lv[m].P) = true := decide_eq_true t5
          (go_wp2; go_quiet (fail); go_wp2)
          go_ret
          exact ⟨ret_bool (tabB_no fun h => by have := (HLS.out (h.2.2.1 _ hlt)).1; omega), (by repeat (first | exact Ext.refl _ | assumption | refine Ext.alloc ?_ _ | refine Ext.drew ?_ | refine Ext.drewN ?_ _ | refine Ext.trans ?_ (by assumption)))⟩
        have hd5 : decide (lv[m + 1].P ≤ lv[m].P) = false := decide_eq_false t5
        by_cases t6 : (m : Int) + 1 ≤ crit
        · have hd6 : decide ((m : Int) + 1 ≤ crit) = true := decide_eq_true t6
          by_cases t7 : lv[m].E - yy < lv[m + 1].E - xx
          · have hd7 : decide (lv[m].E - yy < lv[m + 1].E - xx) = true := decide_eq_true t7
            (go_wp2; go_quiet (fail); go_wp2)
            go_quiet (fail)
            go_wp2
            go_ret
            exact ⟨ret_bool (tabB_no fun h => by have := (HLS.out (h.2.2.1 _ hlt)).2 (by omega); omega), (by repeat (first | exact Ext.refl _ | assumption | refine Ext.alloc ?_ _ | refine Ext.drew ?_ | refine Ext.drewN ?_ _ | refine Ext.trans ?_ (by assumption)))⟩
          · have hd7 : decide (lv[m].E - yy < lv[m + 1].E - xx) = false := decide_eq_false t7
            (go_wp2; go_quiet (fail); go_wp2)
            go_quiet (fail)
            go_wp2
            go_roundw
            case rel => exact ⟨m + 2, by omega, by go_num, rfl, (by repeat (first | exact Ext.refl _ | assumption | refine Ext.alloc ?_ _ | refine Ext.drew ?_ | refine Ext.drewN ?_ _ | refine Ext.trans ?_ (by assumption))), lvl_more (k := m + 1) HALL.out (HLS2.out (by omega) (fun _ => by omega))⟩
            case measure => simp [intOf]; omega
        · have hd6 : decide ((m : Int) + 1 ≤ crit) = false := decide_eq_false t6
          (go_wp2; go_quiet (fail); go_wp2)
          go_quiet (fail)
          go_wp2
          go_roundw
          case rel => exact ⟨m + 2, by omega, by go_num, rfl, (by repeat (first | exact Ext.refl _ | assumption | refine Ext.alloc ?_ _ | refine Ext.drew ?_ | refine Ext.drewN ?_ _ | refine Ext.trans ?_ (by assumption))), lvl_more (k := m + 1) HALL.out (HLS2.out (by omega) (fun h => by omega))⟩
          case measure => simp [intOf]; omega
    · have hks : k = lv.length := by omega
      subst hks
      obtain ⟨_, p1, p2, p3, _⟩ := PlatV.boxed w (⟨⟨LA, Lc, lv⟩, ⟨SA, Sc, ss⟩, ⟨DA, Dc, ds⟩, idle, crit, sw, swE, sems, hz⟩ : PlatV) 26
      have p1 := hb.cell p1
      have p2 := hb.cell p2
      have p3 := hb.cell p3
      clear hb q3 q4 hrl
      dsimp only at p1 p2 p3
      go_wp2
      go_loopw [2, 5] (fun r i wr2 => ∃ k : Nat, k ≤ ss.length ∧ i = .int .i64 k ∧ r = .bool false ∧ Ext wr wr2 ∧ Hid (∀ s ∈ ss.take k, sleepB idle s = true)) (fun _ i _ => ss.length - (intOf i).toNat)
      case atStart => exact ⟨0, by omega, rfl, rfl, Ext.refl _, fun n hn => by simp at hn⟩
      case round =>
        obtain ⟨k, hk, rfl, rfl, hr, HS⟩ := hrel
        have p1 := hr.cell p1
        have p3 := hr.cell p3
        have hw2 := hw.trans hr
        by_cases hlt : k < ss.length
        · obtain ⟨b, o, rfl, ub, u0, u1, u2, u3, u4, u5⟩ := SleepV.row (hrs.ext hw2) k hlt
          cases c1 : sleepB idle ss[k]
          · go_wp2
            go_still_tail 7, (by kernel_rfl)
            go_wp2_with (go_at_call 46; refine (rsleep_any ss[k] idle _).mono ?_; rintro e w1 ⟨rfl, hb1⟩)
            go_ret
            exact ⟨ret_bool (tabB_no fun h => by have := h.2.2.2.1 _ (List.getElem_mem hlt); dsimp only at this; rw [c1] at this; exact absurd this (by decide)), (by repeat (first | exact Ext.refl _ | assumption | refine Ext.alloc ?_ _ | refine Ext.drew ?_ | refine Ext.drewN ?_ _ | refine Ext.trans ?_ (by assumption)))⟩
          · go_wp2
            go_still_tail 7, (by kernel_rfl)
            go_wp2_with (go_at_call 46; refine (rsleep_any ss[k] idle _).mono ?_; rintro e w1 ⟨rfl, hb1⟩)
            go_roundw
            case rel => exact ⟨k + 1, by omega, by go_num, rfl, (by repeat (first | exact Ext.refl _ | assumption | refine Ext.alloc ?_ _ | refine Ext.drew ?_ | refine Ext.drewN ?_ _ | refine Ext.trans ?_ (by assumption))), fun s hs => by rw [List.take_succ_eq_append_getElem hlt] at hs; rcases List.mem_append.1 hs with h | h; exact HS.out s h; (rw [List.mem_singleton.1 h]; exact c1)⟩
            case measure => simp [intOf]; omega
        · have hks : k = ss.length := by omega
          subst hks
          have p2 := hr.cell p2
          have hS2 : ∀ s ∈ ss, sleepB idle s = true := by have := HS.out; rwa [List.take_length] at this
          have HS2 := Lib.hid hS2; clear hS2 HS p3
          go_wp2
          go_loopw [2, 6] (fun r i wr3 => ∃ k : Nat, k ≤ ds.length ∧ i = .int .i64 k ∧ r = .bool false ∧ Ext wr wr3 ∧ Hid (∀ s ∈ ds.take k, devB s = true)) (fun _ i _ => ds.length - (intOf i).toNat)
          case atStart => exact ⟨0, by omega, rfl, rfl, Ext.refl _, fun n hn => by simp at hn⟩
          case round =>
            obtain ⟨k, hk, rfl, rfl, hr3, HD⟩ := hrel
            have p2 := hr3.cell p2
            have hw3 := hw2.trans hr3
            by_cases hlt : k < ds.length
            · obtain ⟨b, o, rfl, ub, u0, u1, u2, u3, u4, u5, u6⟩ := DeviceV.row (hrd.ext hw3) k hlt
              cases c1 : devB ds[k]
              · go_wp2_with (go_at_call 47; refine (rdevice_any ds[k] _).mono ?_; rintro e w1 ⟨rfl, hb1⟩)
                go_ret
                exact ⟨ret_bool (tabB_no fun h => by have := h.2.2.2.2 _ (List.getElem_mem hlt); rw [c1] at this; exact absurd this (by decide)), (by repeat (first | exact Ext.refl _ | assumption | refine Ext.alloc ?_ _ | refine Ext.drew ?_ | refine Ext.drewN ?_ _ | refine Ext.trans ?_ (by assumption)))⟩
              · go_wp2_with (go_at_call 47; refine (rdevice_any ds[k] _).mono ?_; rintro e w1 ⟨rfl, hb1⟩)
                go_roundw
                case rel => exact ⟨k + 1, by omega, by go_num, rfl, (by repeat (first | exact Ext.refl _ | assumption | refine Ext.alloc ?_ _ | refine Ext.drew ?_ | refine Ext.drewN ?_ _ | refine Ext.trans ?_ (by assumption))), fun s hs => by rw [List.take_succ_eq_append_getElem hlt] at hs; rcases List.mem_append.1 hs with h | h; exact HD.out s h; (rw [List.mem_singleton.1 h]; exact c1)⟩
                case measure => simp [intOf]; omega
            · have hks : k = ds.length := by omega
              subst hks
              have hD2 : ∀ s ∈ ds, devB s = true := by have := HD.out; rwa [List.take_length] at this
              have HD2 := Lib.hid hD2; clear hD2 HD
              go_wp2
              go_ret
              exact ⟨ret_bool (tabB_yes ⟨H1.out, H2.out, fun n hn => HALL.out n hn, HS2.out, HD2.out⟩), (by repeat (first | exact Ext.refl _ | assumption | refine Ext.alloc ?_ _ | refine Ext.drew ?_ | refine Ext.drewN ?_ _ | refine Ext.trans ?_ (by assumption)))⟩

theorem rtable_any (p : PlatV) (w : World) (hp : p.Ok w) : Calls Try.prog 33 #[p.val] w fun e w' => e = .returned (.bool (tabB p)) ∧ Ext w w' := by
  by_cases h1 : tabP1 p
  · by_cases h2 : tabP2 p
    · exact rtable_yes p w hp h1 h2
    · have h := rtable_no2 p w h1 h2
      rwa [tabB_no (p := p) fun h => h2 h.2.1] at h
  · have h := rtable_no1 p w h1
    rwa [tabB_no (p := p) fun h => h1 h.1] at h
end Go.Proofs.Ytmfphojmegfanaa
