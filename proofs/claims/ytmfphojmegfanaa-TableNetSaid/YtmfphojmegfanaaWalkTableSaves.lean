/- the law TableSaves, walked. -/
import Derived.Test.YtmfphojmegfanaaTableA
namespace Go.Proofs.Ytmfphojmegfanaa
open Go.RowKit
set_option linter.unusedVariables false
theorem checkI_cases (p : PlatV) : (tabP p ∧ checkI p = 0) ∨ checkI p = 2 := by
  unfold checkI
  cases h : tabB p
  · exact .inr rfl
  · exact .inl ⟨(tabB_iff p).1 h, rfl⟩
theorem saves {down up dE uE off on even m : Int} (h : awayP down up dE uE off on even) (h0 : 0 ≤ m) (h1 : m ≤ 65535) :
    dE + uE + off * (even + m - down - up) ≤ on * (even + m) ∧ (0 ≤ off * (even + m - down - up) ∧ off * (even + m - down - up) ≤ 65536 * 81919) ∧ (0 ≤ on * (even + m) ∧ on * (even + m) ≤ 65536 * 81919) := by
  obtain ⟨⟨⟨a1, a2⟩, ⟨b1, b2⟩, ⟨c1, c2⟩, ⟨d1, d2⟩, ⟨e1, e2⟩, f1, f2⟩, ⟨g1, g2, g3⟩, hc⟩ := h
  refine ⟨?_, mul_bd f1 (by omega) (by omega) (by omega), mul_bd e1 e2 (by omega) (by omega)⟩
  have k1 : off * (even + m - down - up) = off * (even - down - up) + off * m := by rw [← Int.mul_add]; congr 1; omega
  have k2 : on * (even + m) = on * even + on * m := Int.mul_add ..
  have k3 : off * m ≤ on * m := Int.mul_le_mul_of_nonneg_right f2 h0
  rw [k1, k2]
  omega
set_option maxHeartbeats 8000000 in
set_option maxRecDepth 100000 in
theorem walk_TableSaves (p : PlatV) (more : Int) (w : World) (hp : p.Arg w) (hm : 0 ≤ more ∧ more ≤ 65535) : Calls Try.prog 10 #[p.val, .int .u16 more] w fun e w' => e = .returned (.bool true) ∧ Ext w w' := by
  have hk := hp.ok
  clear hp
  have hrs := hk.sleeps.row
  have hrd := hk.devices.row
  obtain ⟨m1, m2⟩ := hm
  rcases checkI_cases p with ⟨ht, hc⟩ | hc
  rotate_left
  · have HC := Lib.hid hc; have HK := Lib.hid hk; clear hc hk
    unfold PlatV.val
    go_enter Try.func10, Try.ntmps10
    go_wp2_with fail
    refine (check_any p _ (HK.out.ext (by repeat (first | exact Ext.refl _ | assumption | refine Ext.alloc ?_ _ | refine Ext.drew ?_ | refine Ext.drewN ?_ _ | refine Ext.trans ?_ (by assumption))))).mono ?_
    rintro e w1 ⟨rfl, hb1⟩
    rw [HC.out]
    go_wp2_with fail
    refine (answers04 _).mono ?_
    rintro e w2 ⟨rfl, hb2⟩
    go_wp2
    go_ret
    exact ⟨rfl, (by repeat (first | exact Ext.refl _ | assumption | refine Ext.alloc ?_ _ | refine Ext.drew ?_ | refine Ext.drewN ?_ _ | refine Ext.trans ?_ (by assumption)))⟩
  obtain ⟨ht1, ht2, _, hts, htd⟩ := ht
  obtain ⟨lv, ⟨SA, Sc, ss⟩, ⟨DA, Dc, ds⟩, idle, crit, sw, swE, sems, hz⟩ := p
  obtain ⟨_, ⟨i1, i2⟩, _⟩ := ht1
  obtain ⟨l1, l2, _⟩ := ht2
  dsimp only at hrs hrd hts htd i1 i2 l1 l2
  have HC := Lib.hid hc; have HK := Lib.hid hk; clear hc hk
  have HTS := Lib.hid hts; have HTD := Lib.hid htd; clear hts htd
  unfold PlatV.val
  dsimp only
  go_enter Try.func10, Try.ntmps10
  go_wp2_with fail
  refine (check_any (⟨lv, ⟨SA, Sc, ss⟩, ⟨DA, Dc, ds⟩, idle, crit, sw, swE, sems, hz⟩ : PlatV) _ (HK.out.ext (by repeat (first | exact Ext.refl _ | assumption | refine Ext.alloc ?_ _ | refine Ext.drew ?_ | refine Ext.drewN ?_ _ | refine Ext.trans ?_ (by assumption))))).mono ?_
  rintro e w1 ⟨rfl, hb1⟩
  rw [HC.out]
  obtain ⟨_, q1, q2, q3, _⟩ := PlatV.boxed w (⟨lv, ⟨SA, Sc, ss⟩, ⟨DA, Dc, ds⟩, idle, crit, sw, swE, sems, hz⟩ : PlatV) 26
  have q1 := hb1.cell q1
  have q2 := hb1.cell q2
  have q3 := hb1.cell q3
  dsimp only at q1 q2 q3
  have hw1 : Ext w w1 := ((Ext.refl w).alloc _).trans hb1
  have qz : w.heap.size < w1.heap.size := by have := hb1.size; simp only [World.size_alloc] at this; omega
  go_wp2
  go_loopw [4, 5, 6, 7] (fun r i _ _ wr => ∃ k : Nat, k ≤ ss.length ∧ i = .int .i64 k ∧ r = .bool false ∧ Ext w1 wr) (fun _ i _ _ _ => ss.length - (intOf i).toNat)
  case atStart => exact ⟨0, by omega, rfl, rfl, Ext.refl _⟩
  case round =>
    obtain ⟨k, hk, rfl, rfl, hr⟩ := hrel
    have q1 := hr.cell q1
    have q3 := hr.cell q3
    have hw2 := hw1.trans hr
    have qz2 : w.heap.size < wr.heap.size := by have := hr.size; omega
    by_cases hlt : k < ss.length
    · obtain ⟨b, o, rfl, ub, u0, u1, u2, u3, u4, u5⟩ := SleepV.row (hrs.ext hw2) k hlt
      have ha := awayB_iff.1 (HTS.out _ (List.getElem_mem hlt))
      have hsv := saves ha m1 m2
      obtain ⟨⟨⟨a1, a2⟩, ⟨b1, b2⟩, ⟨c1, c2⟩, ⟨d1, d2⟩, ⟨e1, e2⟩, f1, f2⟩, ⟨g1, g2, g3⟩, _⟩ := ha
      generalize hx : ss[k].power * (ss[k].even + more - ss[k].enter - ss[k].exit) = xx at *
      generalize hy : idle * (ss[k].even + more) = yy at *
      obtain ⟨s1, ⟨s2, s3⟩, s4, s5⟩ := hsv
      go_wp2
      go_roundw
      case rel => exact ⟨k + 1, by omega, by go_num, rfl, (by repeat (first | exact Ext.refl _ | assumption | refine Ext.alloc ?_ _ | refine Ext.drew ?_ | refine Ext.drewN ?_ _ | refine Ext.trans ?_ (by assumption)))⟩
      case measure => simp [intOf]; omega
    · have q2 := hr.cell q2
      go_wp2
      go_loopw [4, 8, 9, 10] (fun r i _ _ w3 => ∃ k : Nat, k ≤ ds.length ∧ i = .int .i64 k ∧ r = .bool false ∧ Ext wr w3) (fun _ i _ _ _ => ds.length - (intOf i).toNat)
      case atStart => exact ⟨0, by omega, rfl, rfl, Ext.refl _⟩
      case round =>
        obtain ⟨k, hk, rfl, rfl, hr3⟩ := hrel
        have q2 := hr3.cell q2
        have hw3 := hw2.trans hr3
        by_cases hlt : k < ds.length
        · obtain ⟨b, o, rfl, ub, u0, u1, u2, u3, u4, u5, u6⟩ := DeviceV.row (hrd.ext hw3) k hlt
          have ha := awayB_iff.1 (HTD.out _ (List.getElem_mem hlt))
          have hsv := saves ha m1 m2
          obtain ⟨⟨⟨a1, a2⟩, ⟨b1, b2⟩, ⟨c1, c2⟩, ⟨d1, d2⟩, ⟨e1, e2⟩, f1, f2⟩, ⟨g1, g2, g3⟩, _⟩ := ha
          generalize hx : ds[k].off * (ds[k].even + more - ds[k].down - ds[k].up) = xx at *
          generalize hy : ds[k].on * (ds[k].even + more) = yy at *
          obtain ⟨s1, ⟨s2, s3⟩, s4, s5⟩ := hsv
          go_wp2
          go_roundw
          case rel => exact ⟨k + 1, by omega, by go_num, rfl, (by repeat (first | exact Ext.refl _ | assumption | refine Ext.alloc ?_ _ | refine Ext.drew ?_ | refine Ext.drewN ?_ _ | refine Ext.trans ?_ (by assumption)))⟩
          case measure => simp [intOf]; omega
        · go_wp2_with (go_at_call 32; refine (answers04 _).mono ?_; rintro e w4 ⟨rfl, hb4⟩)
          go_ret
          exact ⟨rfl, (by repeat (first | exact Ext.refl _ | assumption | refine Ext.alloc ?_ _ | refine Ext.drew ?_ | refine Ext.drewN ?_ _ | refine Ext.trans ?_ (by assumption)))⟩
end Go.Proofs.Ytmfphojmegfanaa
