/- the law TableLess, walked. -/
import Derived.Test.YtmfphojmegfanaaWalkTableSaves
namespace Go.Proofs.Ytmfphojmegfanaa
open Go.RowKit
set_option linter.unusedVariables false
theorem Row.takes {α : Type} {w : World} {A : Option Addr} {f : α → List Value} {xs : List α} (h : Row w A (xs.flatMap f)) (k : Nat) : Row w A ((xs.take k).flatMap f) := by
  have e : xs.flatMap f = (xs.take k).flatMap f ++ (xs.drop k).flatMap f := by rw [← List.flatMap_append, List.take_append_drop]
  rw [e] at h
  exact h.left
theorem Sl.Ok.takes {α : Type} {enc : α → List Value} {ok : World → α → Prop} {bytes : Nat} {w : World} {A : Option Addr} {c : Nat} {xs : List α} (h : Sl.Ok enc ok bytes w ⟨A, c, xs⟩) (k : Nat) : Sl.Ok enc ok bytes w ⟨A, c, xs.take k⟩ :=
  ⟨h.row.takes k, fun x hx => h.each x (List.mem_of_mem_take hx), Nat.le_trans (List.length_take_le' _ _) h.cap, Nat.le_trans (Nat.mul_le_mul_right _ (List.length_take_le' _ _)) h.fit⟩
theorem less_ok {p : PlatV} (h : tabP p) (a b c : Nat) (hc : p.crit < ((p.levels.xs.take a).length : Int)) : checkI ⟨⟨p.levels.A, p.levels.c, p.levels.xs.take a⟩, ⟨p.sleeps.A, p.sleeps.c, p.sleeps.xs.take b⟩, ⟨p.devices.A, p.devices.c, p.devices.xs.take c⟩, p.idle, p.crit, p.switch, p.switchE, p.sems, p.horizon⟩ = 0 := by
  obtain ⟨⟨⟨x1, x2⟩, x3, ⟨x4, x5⟩, x6, x7⟩, ⟨y1, y2, y3, y4⟩, hl, hs, hd⟩ := h
  unfold checkI
  rw [if_pos]
  rw [tabB_iff]
  refine ⟨⟨⟨by dsimp only; omega, ?_⟩, x3, ⟨x4, hc⟩, x6, x7⟩, ⟨?_, ?_, y3, y4⟩, ?_, fun s h => hs s (List.mem_of_mem_take h), fun s h => hd s (List.mem_of_mem_take h)⟩
  · exact Nat.le_trans (List.length_take_le' _ _) x2
  · exact Nat.le_trans (List.length_take_le' _ _) y1
  · exact Nat.le_trans (List.length_take_le' _ _) y2
  · intro n hn l hln
    dsimp only at hn hln
    have hn2 : n < p.levels.xs.length := by rw [List.length_take] at hn; omega
    have hn3 : n < a := by rw [List.length_take] at hn; omega
    have hln2 : p.levels.xs[n]? = some l := by rw [List.getElem?_take_of_lt hn3] at hln; exact hln
    obtain ⟨k1, k2, k3⟩ := hl n hn2 l hln2
    refine ⟨k1, k2, fun m am e hm => k3 m am e ?_⟩
    rw [List.getElem?_take_of_lt (by omega)] at hm
    exact hm
theorem take_len_self {α : Type} (xs : List α) : xs.take xs.length = xs := List.take_length
theorem take_pred {α : Type} (xs : List α) : (xs.take (xs.length - 1)).length = xs.length - 1 := by rw [List.length_take]; omega
theorem Ext.lt {w w1 : World} {o : Obj} (h : Ext (w.alloc o) w1) : w.heap.size < w1.heap.size := by
  have := h.size
  simp only [World.size_alloc] at this
  omega
set_option maxHeartbeats 8000000 in
set_option maxRecDepth 100000 in
theorem walk_TableLess (p : PlatV) (w : World) (hp : p.Arg w) : Calls Try.prog 12 #[p.val] w fun e w' => e = .returned (.bool true) ∧ Ext w w' := by
  have hk := hp.ok
  clear hp
  rcases checkI_cases p with ⟨ht, hc⟩ | hc
  rotate_left
  · have HC := Lib.hid hc; have HK := Lib.hid hk; clear hc hk
    unfold PlatV.val
    go_enter Try.func12, Try.ntmps12
    go_wp2_with fail
    refine (check_any p _ (HK.out.ext (by repeat (first | exact Ext.refl _ | assumption | refine Ext.alloc ?_ _ | refine Ext.drew ?_ | refine Ext.drewN ?_ _ | refine Ext.trans ?_ (by assumption))))).mono ?_
    rintro e w1 ⟨rfl, hb1⟩
    rw [HC.out]
    go_wp2_with fail
    refine (answers04 _).mono ?_
    rintro e w2 ⟨rfl, hb2⟩
    go_wp2
    go_ret
    exact ⟨rfl, (by repeat (first | exact Ext.refl _ | assumption | refine Ext.alloc ?_ _ | refine Ext.drew ?_ | refine Ext.drewN ?_ _ | refine Ext.trans ?_ (by assumption)))⟩
  have hcl := hk.levels.cap
  have hcs := hk.sleeps.cap
  have hcd := hk.devices.cap
  have hcrit := ht.1.2.2.1
  have hlen := ht.1.1
  have hss := ht.2.1.1
  have hds := ht.2.1.2.1
  obtain ⟨⟨LA, Lc, lv⟩, ⟨SA, Sc, ss⟩, ⟨DA, Dc, ds⟩, idle, crit, sw, swE, sems, hz⟩ := p
  have HL := Lib.hid (less_ok ht)
  dsimp only at hcl hcs hcd hcrit hlen hss hds HL
  obtain ⟨cr1, cr2⟩ := hcrit
  obtain ⟨ln1, ln2⟩ := hlen
  have HC := Lib.hid hc; have HK := Lib.hid hk; clear hc hk ht
  unfold PlatV.val
  dsimp only
  have nl : (lv.take (lv.length - 1)).length = lv.length - 1 := take_pred lv
  have ns : (ss.take (ss.length - 1)).length = ss.length - 1 := take_pred ss
  have nd : (ds.take (ds.length - 1)).length = ds.length - 1 := take_pred ds
  have NL := Lib.hid nl; have NS := Lib.hid ns; have ND := Lib.hid nd; clear nl ns nd
  by_cases c1 : 0 < ds.length
  · by_cases c2 : 0 < ss.length
    · by_cases c3 : crit < (lv.length : Int) - 1
      · have hq := HL.out (lv.length - 1) (ss.length - 1) (ds.length - 1) (by rw [NL.out]; omega)
        have HQ := Lib.hid hq; clear hq
        go_enter Try.func12, Try.ntmps12
        go_wp2_with fail
        refine (check_any (⟨⟨LA, Lc, lv⟩, ⟨SA, Sc, ss⟩, ⟨DA, Dc, ds⟩, idle, crit, sw, swE, sems, hz⟩ : PlatV) _ (HK.out.ext (by repeat (first | exact Ext.refl _ | assumption | refine Ext.alloc ?_ _ | refine Ext.drew ?_ | refine Ext.drewN ?_ _ | refine Ext.trans ?_ (by assumption))))).mono ?_
        rintro e w1 ⟨rfl, hb1⟩
        rw [HC.out]
        obtain ⟨hc1, hf1, _⟩ := hb1.rules
        have hs1 := hb1.lt
        go_wp2_with fail
        refine (answers04 _).mono ?_
        rintro e w2 ⟨rfl, hb2⟩
        obtain ⟨hc2, hf2, _⟩ := hb2.rules
        have hs2 := hb2.lt
        go_wp2_with fail
        rw [← NL.out]
        rw [← NS.out]
        rw [← ND.out]
        refine (check_any ⟨⟨LA, Lc, lv.take (lv.length - 1)⟩, ⟨SA, Sc, ss.take (ss.length - 1)⟩, ⟨DA, Dc, ds.take (ds.length - 1)⟩, idle, crit, sw, swE, sems, hz⟩ _ (PlatV.Ok.ext (w := w) ⟨HK.out.levels.takes _, HK.out.sleeps.takes _, HK.out.devices.takes _, HK.out.idle, HK.out.crit, HK.out.switch, HK.out.switchE, HK.out.sems, HK.out.horizon⟩ (by repeat (first | exact Ext.refl _ | assumption | refine Ext.alloc ?_ _ | refine Ext.drew ?_ | refine Ext.drewN ?_ _ | refine Ext.trans ?_ (by assumption))))).mono ?_
        rintro e w3 ⟨rfl, hb3⟩
        rw [HQ.out]
        go_wp2
        go_ret
        exact ⟨rfl, (by repeat (first | exact Ext.refl _ | assumption | refine Ext.alloc ?_ _ | refine Ext.drew ?_ | refine Ext.drewN ?_ _ | refine Ext.trans ?_ (by assumption)))⟩
      · have hq := HL.out lv.length (ss.length - 1) (ds.length - 1) (by rw [List.take_length]; omega)
        simp only [List.take_length] at hq
        have HQ := Lib.hid hq; clear hq
        go_enter Try.func12, Try.ntmps12
        go_wp2_with fail
        refine (check_any (⟨⟨LA, Lc, lv⟩, ⟨SA, Sc, ss⟩, ⟨DA, Dc, ds⟩, idle, crit, sw, swE, sems, hz⟩ : PlatV) _ (HK.out.ext (by repeat (first | exact Ext.refl _ | assumption | refine Ext.alloc ?_ _ | refine Ext.drew ?_ | refine Ext.drewN ?_ _ | refine Ext.trans ?_ (by assumption))))).mono ?_
        rintro e w1 ⟨rfl, hb1⟩
        rw [HC.out]
        obtain ⟨hc1, hf1, _⟩ := hb1.rules
        have hs1 := hb1.lt
        go_wp2_with fail
        refine (answers04 _).mono ?_
        rintro e w2 ⟨rfl, hb2⟩
        obtain ⟨hc2, hf2, _⟩ := hb2.rules
        have hs2 := hb2.lt
        go_wp2_with fail
        rw [← NS.out]
        rw [← ND.out]
        refine (check_any ⟨⟨LA, Lc, lv⟩, ⟨SA, Sc, ss.take (ss.length - 1)⟩, ⟨DA, Dc, ds.take (ds.length - 1)⟩, idle, crit, sw, swE, sems, hz⟩ _ (PlatV.Ok.ext (w := w) ⟨HK.out.levels, HK.out.sleeps.takes _, HK.out.devices.takes _, HK.out.idle, HK.out.crit, HK.out.switch, HK.out.switchE, HK.out.sems, HK.out.horizon⟩ (by repeat (first | exact Ext.refl _ | assumption | refine Ext.alloc ?_ _ | refine Ext.drew ?_ | refine Ext.drewN ?_ _ | refine Ext.trans ?_ (by assumption))))).mono ?_
        rintro e w3 ⟨rfl, hb3⟩
        rw [HQ.out]
        go_wp2
        go_ret
        exact ⟨rfl, (by repeat (first | exact Ext.refl _ | assumption | refine Ext.alloc ?_ _ | refine Ext.drew ?_ | refine Ext.drewN ?_ _ | refine Ext.trans ?_ (by assumption)))⟩
    · by_cases c3 : crit < (lv.length : Int) - 1
      · have hq := HL.out (lv.length - 1) ss.length (ds.length - 1) (by rw [NL.out]; omega)
        simp only [List.take_length] at hq
        have HQ := Lib.hid hq; clear hq
        go_enter Try.func12, Try.ntmps12
        go_wp2_with fail
        refine (check_any (⟨⟨LA, Lc, lv⟩, ⟨SA, Sc, ss⟩, ⟨DA, Dc, ds⟩, idle, crit, sw, swE, sems, hz⟩ : PlatV) _ (HK.out.ext (by repeat (first | exact Ext.refl _ | assumption | refine Ext.alloc ?_ _ | refine Ext.drew ?_ | refine Ext.drewN ?_ _ | refine Ext.trans ?_ (by assumption))))).mono ?_
        rintro e w1 ⟨rfl, hb1⟩
        rw [HC.out]
        obtain ⟨hc1, hf1, _⟩ := hb1.rules
        have hs1 := hb1.lt
        go_wp2_with fail
        refine (answers04 _).mono ?_
        rintro e w2 ⟨rfl, hb2⟩
        obtain ⟨hc2, hf2, _⟩ := hb2.rules
        have hs2 := hb2.lt
        go_wp2_with fail
        rw [← NL.out]
        rw [← ND.out]
        refine (check_any ⟨⟨LA, Lc, lv.take (lv.length - 1)⟩, ⟨SA, Sc, ss⟩, ⟨DA, Dc, ds.take (ds.length - 1)⟩, idle, crit, sw, swE, sems, hz⟩ _ (PlatV.Ok.ext (w := w) ⟨HK.out.levels.takes _, HK.out.sleeps, HK.out.devices.takes _, HK.out.idle, HK.out.crit, HK.out.switch, HK.out.switchE, HK.out.sems, HK.out.horizon⟩ (by repeat (first | exact Ext.refl _ | assumption | refine Ext.alloc ?_ _ | refine Ext.drew ?_ | refine Ext.drewN ?_ _ | refine Ext.trans ?_ (by assumption))))).mono ?_
        rintro e w3 ⟨rfl, hb3⟩
        rw [HQ.out]
        go_wp2
        go_ret
        exact ⟨rfl, (by repeat (first | exact Ext.refl _ | assumption | refine Ext.alloc ?_ _ | refine Ext.drew ?_ | refine Ext.drewN ?_ _ | refine Ext.trans ?_ (by assumption)))⟩
      · have hq := HL.out lv.length ss.length (ds.length - 1) (by rw [List.take_length]; omega)
        simp only [List.take_length] at hq
        have HQ := Lib.hid hq; clear hq
        go_enter Try.func12, Try.ntmps12
        go_wp2_with fail
        refine (check_any (⟨⟨LA, Lc, lv⟩, ⟨SA, Sc, ss⟩, ⟨DA, Dc, ds⟩, idle, crit, sw, swE, sems, hz⟩ : PlatV) _ (HK.out.ext (by repeat (first | exact Ext.refl _ | assumption | refine Ext.alloc ?_ _ | refine Ext.drew ?_ | refine Ext.drewN ?_ _ | refine Ext.trans ?_ (by assumption))))).mono ?_
        rintro e w1 ⟨rfl, hb1⟩
        rw [HC.out]
        obtain ⟨hc1, hf1, _⟩ := hb1.rules
        have hs1 := hb1.lt
        go_wp2_with fail
        refine (answers04 _).mono ?_
        rintro e w2 ⟨rfl, hb2⟩
        obtain ⟨hc2, hf2, _⟩ := hb2.rules
        have hs2 := hb2.lt
        go_wp2_with fail
        rw [← ND.out]
        refine (check_any ⟨⟨LA, Lc, lv⟩, ⟨SA, Sc, ss⟩, ⟨DA, Dc, ds.take (ds.length - 1)⟩, idle, crit, sw, swE, sems, hz⟩ _ (PlatV.Ok.ext (w := w) ⟨HK.out.levels, HK.out.sleeps, HK.out.devices.takes _, HK.out.idle, HK.out.crit, HK.out.switch, HK.out.switchE, HK.out.sems, HK.out.horizon⟩ (by repeat (first | exact Ext.refl _ | assumption | refine Ext.alloc ?_ _ | refine Ext.drew ?_ | refine Ext.drewN ?_ _ | refine Ext.trans ?_ (by assumption))))).mono ?_
        rintro e w3 ⟨rfl, hb3⟩
        rw [HQ.out]
        go_wp2
        go_ret
        exact ⟨rfl, (by repeat (first | exact Ext.refl _ | assumption | refine Ext.alloc ?_ _ | refine Ext.drew ?_ | refine Ext.drewN ?_ _ | refine Ext.trans ?_ (by assumption)))⟩
  · by_cases c2 : 0 < ss.length
    · by_cases c3 : crit < (lv.length : Int) - 1
      · have hq := HL.out (lv.length - 1) (ss.length - 1) ds.length (by rw [NL.out]; omega)
        simp only [List.take_length] at hq
        have HQ := Lib.hid hq; clear hq
        go_enter Try.func12, Try.ntmps12
        go_wp2_with fail
        refine (check_any (⟨⟨LA, Lc, lv⟩, ⟨SA, Sc, ss⟩, ⟨DA, Dc, ds⟩, idle, crit, sw, swE, sems, hz⟩ : PlatV) _ (HK.out.ext (by repeat (first | exact Ext.refl _ | assumption | refine Ext.alloc ?_ _ | refine Ext.drew ?_ | refine Ext.drewN ?_ _ | refine Ext.trans ?_ (by assumption))))).mono ?_
        rintro e w1 ⟨rfl, hb1⟩
        rw [HC.out]
        obtain ⟨hc1, hf1, _⟩ := hb1.rules
        have hs1 := hb1.lt
        go_wp2_with fail
        refine (answers04 _).mono ?_
        rintro e w2 ⟨rfl, hb2⟩
        obtain ⟨hc2, hf2, _⟩ := hb2.rules
        have hs2 := hb2.lt
        go_wp2_with fail
        rw [← NL.out]
        rw [← NS.out]
        refine (check_any ⟨⟨LA, Lc, lv.take (lv.length - 1)⟩, ⟨SA, Sc, ss.take (ss.length - 1)⟩, ⟨DA, Dc, ds⟩, idle, crit, sw, swE, sems, hz⟩ _ (PlatV.Ok.ext (w := w) ⟨HK.out.levels.takes _, HK.out.sleeps.takes _, HK.out.devices, HK.out.idle, HK.out.crit, HK.out.switch, HK.out.switchE, HK.out.sems, HK.out.horizon⟩ (by repeat (first | exact Ext.refl _ | assumption | refine Ext.alloc ?_ _ | refine Ext.drew ?_ | refine Ext.drewN ?_ _ | refine Ext.trans ?_ (by assumption))))).mono ?_
        rintro e w3 ⟨rfl, hb3⟩
        rw [HQ.out]
        go_wp2
        go_ret
        exact ⟨rfl, (by repeat (first | exact Ext.refl _ | assumption | refine Ext.alloc ?_ _ | refine Ext.drew ?_ | refine Ext.drewN ?_ _ | refine Ext.trans ?_ (by assumption)))⟩
      · have hq := HL.out lv.length (ss.length - 1) ds.length (by rw [List.take_length]; omega)
        simp only [List.take_length] at hq
        have HQ := Lib.hid hq; clear hq
        go_enter Try.func12, Try.ntmps12
        go_wp2_with fail
        refine (check_any (⟨⟨LA, Lc, lv⟩, ⟨SA, Sc, ss⟩, ⟨DA, Dc, ds⟩, idle, crit, sw, swE, sems, hz⟩ : PlatV) _ (HK.out.ext (by repeat (first | exact Ext.refl _ | assumption | refine Ext.alloc ?_ _ | refine Ext.drew ?_ | refine Ext.drewN ?_ _ | refine Ext.trans ?_ (by assumption))))).mono ?_
        rintro e w1 ⟨rfl, hb1⟩
        rw [HC.out]
        obtain ⟨hc1, hf1, _⟩ := hb1.rules
        have hs1 := hb1.lt
        go_wp2_with fail
        refine (answers04 _).mono ?_
        rintro e w2 ⟨rfl, hb2⟩
        obtain ⟨hc2, hf2, _⟩ := hb2.rules
        have hs2 := hb2.lt
        go_wp2_with fail
        rw [← NS.out]
        refine (check_any ⟨⟨LA, Lc, lv⟩, ⟨SA, Sc, ss.take (ss.length - 1)⟩, ⟨DA, Dc, ds⟩, idle, crit, sw, swE, sems, hz⟩ _ (PlatV.Ok.ext (w := w) ⟨HK.out.levels, HK.out.sleeps.takes _, HK.out.devices, HK.out.idle, HK.out.crit, HK.out.switch, HK.out.switchE, HK.out.sems, HK.out.horizon⟩ (by repeat (first | exact Ext.refl _ | assumption | refine Ext.alloc ?_ _ | refine Ext.drew ?_ | refine Ext.drewN ?_ _ | refine Ext.trans ?_ (by assumption))))).mono ?_
        rintro e w3 ⟨rfl, hb3⟩
        rw [HQ.out]
        go_wp2
        go_ret
        exact ⟨rfl, (by repeat (first | exact Ext.refl _ | assumption | refine Ext.alloc ?_ _ | refine Ext.drew ?_ | refine Ext.drewN ?_ _ | refine Ext.trans ?_ (by assumption)))⟩
    · by_cases c3 : crit < (lv.length : Int) - 1
      · have hq := HL.out (lv.length - 1) ss.length ds.length (by rw [NL.out]; omega)
        simp only [List.take_length] at hq
        have HQ := Lib.hid hq; clear hq
        go_enter Try.func12, Try.ntmps12
        go_wp2_with fail
        refine (check_any (⟨⟨LA, Lc, lv⟩, ⟨SA, Sc, ss⟩, ⟨DA, Dc, ds⟩, idle, crit, sw, swE, sems, hz⟩ : PlatV) _ (HK.out.ext (by repeat (first | exact Ext.refl _ | assumption | refine Ext.alloc ?_ _ | refine Ext.drew ?_ | refine Ext.drewN ?_ _ | refine Ext.trans ?_ (by assumption))))).mono ?_
        rintro e w1 ⟨rfl, hb1⟩
        rw [HC.out]
        obtain ⟨hc1, hf1, _⟩ := hb1.rules
        have hs1 := hb1.lt
        go_wp2_with fail
        refine (answers04 _).mono ?_
        rintro e w2 ⟨rfl, hb2⟩
        obtain ⟨hc2, hf2, _⟩ := hb2.rules
        have hs2 := hb2.lt
        go_wp2_with fail
        rw [← NL.out]
        refine (check_any ⟨⟨LA, Lc, lv.take (lv.length - 1)⟩, ⟨SA, Sc, ss⟩, ⟨DA, Dc, ds⟩, idle, crit, sw, swE, sems, hz⟩ _ (PlatV.Ok.ext (w := w) ⟨HK.out.levels.takes _, HK.out.sleeps, HK.out.devices, HK.out.idle, HK.out.crit, HK.out.switch, HK.out.switchE, HK.out.sems, HK.out.horizon⟩ (by repeat (first | exact Ext.refl _ | assumption | refine Ext.alloc ?_ _ | refine Ext.drew ?_ | refine Ext.drewN ?_ _ | refine Ext.trans ?_ (by assumption))))).mono ?_
        rintro e w3 ⟨rfl, hb3⟩
        rw [HQ.out]
        go_wp2
        go_ret
        exact ⟨rfl, (by repeat (first | exact Ext.refl _ | assumption | refine Ext.alloc ?_ _ | refine Ext.drew ?_ | refine Ext.drewN ?_ _ | refine Ext.trans ?_ (by assumption)))⟩
      · have hq := HL.out lv.length ss.length ds.length (by rw [List.take_length]; omega)
        simp only [List.take_length] at hq
        have HQ := Lib.hid hq; clear hq
        go_enter Try.func12, Try.ntmps12
        go_wp2_with fail
        refine (check_any (⟨⟨LA, Lc, lv⟩, ⟨SA, Sc, ss⟩, ⟨DA, Dc, ds⟩, idle, crit, sw, swE, sems, hz⟩ : PlatV) _ (HK.out.ext (by repeat (first | exact Ext.refl _ | assumption | refine Ext.alloc ?_ _ | refine Ext.drew ?_ | refine Ext.drewN ?_ _ | refine Ext.trans ?_ (by assumption))))).mono ?_
        rintro e w1 ⟨rfl, hb1⟩
        rw [HC.out]
        obtain ⟨hc1, hf1, _⟩ := hb1.rules
        have hs1 := hb1.lt
        go_wp2_with fail
        refine (answers04 _).mono ?_
        rintro e w2 ⟨rfl, hb2⟩
        obtain ⟨hc2, hf2, _⟩ := hb2.rules
        have hs2 := hb2.lt
        go_wp2_with fail
        refine (check_any ⟨⟨LA, Lc, lv⟩, ⟨SA, Sc, ss⟩, ⟨DA, Dc, ds⟩, idle, crit, sw, swE, sems, hz⟩ _ (PlatV.Ok.ext (w := w) ⟨HK.out.levels, HK.out.sleeps, HK.out.devices, HK.out.idle, HK.out.crit, HK.out.switch, HK.out.switchE, HK.out.sems, HK.out.horizon⟩ (by repeat (first | exact Ext.refl _ | assumption | refine Ext.alloc ?_ _ | refine Ext.drew ?_ | refine Ext.drewN ?_ _ | refine Ext.trans ?_ (by assumption))))).mono ?_
        rintro e w3 ⟨rfl, hb3⟩
        rw [HQ.out]
        go_wp2
        go_ret
        exact ⟨rfl, (by repeat (first | exact Ext.refl _ | assumption | refine Ext.alloc ?_ _ | refine Ext.drew ?_ | refine Ext.drewN ?_ _ | refine Ext.trans ?_ (by assumption)))⟩
end Go.Proofs.Ytmfphojmegfanaa
